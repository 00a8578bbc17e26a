/- Lemmas for the claim. Conditions stand in each. -/
import Derived.Test.YthljnnjpmdgkoaaGreatG21
import Derived.Deep.QuietTactic
import Derived.BigQuiet
namespace Go.Proofs.YthljnnjpmdgkoaaGreat
open Go Go.Proofs Go.RowKit
set_option maxRecDepth 100000
set_option maxHeartbeats 16000000 in
theorem zhp (w : World) (x : Ev) (v : Value) (L : List Kv) (hv : SlR w 6 kvC v L) (hl : L.length ≤ 1099511627) (hx : x.kv.key.size ≤ 1099511627776) (hp : x.prev.key.size ≤ 1099511627776) (mark : Int) (hm : 0 ≤ mark ∧ mark ≤ 1099511627776) :
 Calls Tryz.prog 70 #[evV x, v, .int .i64 mark] w fun e w' => e = .returned (.bool (zfq x L mark)) ∧ Fr No w w' := by
 have hH := fun W (hW : Fr No w W) => zgs W v L (hv.fr0 hW) hl x.kv.key; have hA := fun W => zgr W x.prev hp (mark - 1) (by omega); have hM := fun W => zfw W x x.prev hx mark
 have HM : Hid (zfq x L mark = if (sameB x.prev kv0 = false ∧ (keq x.prev.key x.kv.key = false ∨ mayB x.prev (mark - 1) = false)) ∨ madeB x x.prev mark = false then false
  else if x.kind = 1 then sameB ((hasL L x.kv.key).getD kv0) x.kv else ((hasL L x.kv.key).getD kv0).version == 0) := H_ rfl
 generalize hnw : (hasL L x.kv.key).getD kv0 = nw at *; generalize zfq x L mark = m at *; generalize hma : mayB x.prev (mark - 1) = ma at *; generalize hmd : madeB x x.prev mark = md at *; have hS1 := fun W => zcb W x.prev ⟨⟨#[]⟩, ⟨#[]⟩, 0, 0, 0, 0⟩; have hS2 := fun W => zcb W nw x.kv; have hm1 : 0 ≤ mark := hm.1; have hm2 : mark ≤ 1099511627776 := hm.2; clear hv hl hx hp hnw hma hmd hm; obtain ⟨kd, ⟨p1, p2, p3, p4, p5, p6⟩, ⟨q1, q2, q3, q4, q5, q6⟩⟩ := x; obtain ⟨n1, n2, n3, n4, n5, n6⟩ := nw; rw [show kv0 = ⟨⟨#[]⟩, ⟨#[]⟩, 0, 0, 0, 0⟩ from rfl] at HM; unfold evV at hM; unfold kvV at hH hA hM hS1 hS2; dsimp only at hH hA hM hS1 hS2 HM; generalize hs1 : sameB ⟨q1, q2, q3, q4, q5, q6⟩ ⟨⟨#[]⟩, ⟨#[]⟩, 0, 0, 0, 0⟩ = s1 at *; generalize hs2 : sameB ⟨n1, n2, n3, n4, n5, n6⟩ ⟨p1, p2, p3, p4, p5, p6⟩ = s2 at *; have HH := H_ hH; have HA := H_ hA; have HD := H_ hM; have HS1 := H_ hS1
 have HS2 := H_ hS2; unfold evV; dsimp only; clear hH hA hM hS1 hS2 hs1 hs2; have hb1 := zad w (Obj.cells #[.int .i64 kd, .string p1, .string p2, .int .i64 p3, .int .i64 p4, .int .i64 p5, .int .i64 p6, .string q1, .string q2, .int .i64 q3, .int .i64 q4, .int .i64 q5, .int .i64 q6] 101) _ rfl; have hf0 : Fr No w (w.alloc (Obj.cells #[.int .i64 kd, .string p1, .string p2, .int .i64 p3, .int .i64 p4, .int .i64 p5, .int .i64 p6, .string q1, .string q2, .int .i64 q3, .int .i64 q4, .int .i64 q5, .int .i64 q6] 101)) := (Fr.refl No w).alloc _; have HB1 := H_ hb1; have HF0 := H_ hf0; clear hb1 hf0
 cases s1 with
 | true =>
   cases md with
   | false =>
     have HW : Hid (false = m) := H_ (by rw [HM.out, if_pos (.inr rfl)]); clear HM; go_enter Tryz.func70, Tryz.ntmps70
     go_wp2_with (go_at_call 72; with_reducible refine (HH.out _ HF0.out).mono ?_; rintro e w1 ⟨rfl, hz1⟩
                  have ha1 := hz1.heap HB1.out id; have la1 := zaa ha1; obtain ⟨a1_0, a1_1, a1_2, a1_3, a1_4, a1_5, a1_6, a1_7, a1_8, a1_9, a1_10, a1_11, a1_12⟩ := cells13 ha1; clear ha1)
     go_wp2_with (go_at_call 82; with_reducible refine (HS1.out _).mono ?_; rintro e w2 ⟨rfl, hg2⟩
                  have hz2 := (hz1.alloc _).trans0 hg2; have hc2 := hg2.heap (zad w1 (Obj.cells #[.string n1, .string n2, .int .i64 n3, .int .i64 n4, .int .i64 n5, .int .i64 n6] 99) _ rfl) id; clear a1_0 a1_1 a1_2 a1_3 a1_4 a1_5 a1_6 a1_7 a1_8 a1_9 a1_10 a1_11 a1_12; have ha2 := hz2.heap HB1.out id; have la2 := zaa ha2; obtain ⟨a2_0, a2_1, a2_2, a2_3, a2_4, a2_5, a2_6, a2_7, a2_8, a2_9, a2_10, a2_11, a2_12⟩ := cells13 ha2; have lc2 := zaa hc2; obtain ⟨b2_0, b2_1, b2_2, b2_3, b2_4, b2_5⟩ := cells6 hc2; clear ha2)
     go_wp2_with (go_at_call 71; with_reducible refine (HD.out _).mono ?_; rintro e w3 ⟨rfl, hg3⟩
                  have hz3 := hz2.trans0 hg3; have hc3 := hg3.heap hc2 id; clear a2_0 a2_1 a2_2 a2_3 a2_4 a2_5 a2_6 a2_7 a2_8 a2_9 a2_10 a2_11 a2_12 b2_0 b2_1 b2_2 b2_3 b2_4 b2_5; have ha3 := hz3.heap HB1.out id; have la3 := zaa ha3; obtain ⟨a3_0, a3_1, a3_2, a3_3, a3_4, a3_5, a3_6, a3_7, a3_8, a3_9, a3_10, a3_11, a3_12⟩ := cells13 ha3; have lc3 := zaa hc3; obtain ⟨b3_0, b3_1, b3_2, b3_3, b3_4, b3_5⟩ := cells6 hc3; clear ha3)
     go_ret; exact ⟨rb (HW.out), HF0.out.trans0 hz3⟩
   | true =>
     have HMM := HM.out; rw [if_neg (by rintro (⟨h, _⟩ | h) <;> cases h)] at HMM; clear HM; by_cases hk : kd = 1
     · subst hk
       rw [if_pos rfl] at HMM; have HW := H_ HMM; clear HMM; go_enter Tryz.func70, Tryz.ntmps70
       go_wp2_with (go_at_call 72; with_reducible refine (HH.out _ HF0.out).mono ?_; rintro e w1 ⟨rfl, hz1⟩
                    have ha1 := hz1.heap HB1.out id; have la1 := zaa ha1; obtain ⟨a1_0, a1_1, a1_2, a1_3, a1_4, a1_5, a1_6, a1_7, a1_8, a1_9, a1_10, a1_11, a1_12⟩ := cells13 ha1; clear ha1)
       go_wp2_with (go_at_call 82; with_reducible refine (HS1.out _).mono ?_; rintro e w2 ⟨rfl, hg2⟩
                    have hz2 := (hz1.alloc _).trans0 hg2; have hc2 := hg2.heap (zad w1 (Obj.cells #[.string n1, .string n2, .int .i64 n3, .int .i64 n4, .int .i64 n5, .int .i64 n6] 99) _ rfl) id; clear a1_0 a1_1 a1_2 a1_3 a1_4 a1_5 a1_6 a1_7 a1_8 a1_9 a1_10 a1_11 a1_12; have ha2 := hz2.heap HB1.out id; have la2 := zaa ha2; obtain ⟨a2_0, a2_1, a2_2, a2_3, a2_4, a2_5, a2_6, a2_7, a2_8, a2_9, a2_10, a2_11, a2_12⟩ := cells13 ha2; have lc2 := zaa hc2; obtain ⟨b2_0, b2_1, b2_2, b2_3, b2_4, b2_5⟩ := cells6 hc2; clear ha2)
       go_wp2_with (go_at_call 71; with_reducible refine (HD.out _).mono ?_; rintro e w3 ⟨rfl, hg3⟩
                    have hz3 := hz2.trans0 hg3; have hc3 := hg3.heap hc2 id; clear a2_0 a2_1 a2_2 a2_3 a2_4 a2_5 a2_6 a2_7 a2_8 a2_9 a2_10 a2_11 a2_12 b2_0 b2_1 b2_2 b2_3 b2_4 b2_5; have ha3 := hz3.heap HB1.out id; have la3 := zaa ha3; obtain ⟨a3_0, a3_1, a3_2, a3_3, a3_4, a3_5, a3_6, a3_7, a3_8, a3_9, a3_10, a3_11, a3_12⟩ := cells13 ha3; have lc3 := zaa hc3; obtain ⟨b3_0, b3_1, b3_2, b3_3, b3_4, b3_5⟩ := cells6 hc3; clear ha3)
       go_wp2_with (go_at_call 82; with_reducible refine (HS2.out _).mono ?_; rintro e w4 ⟨rfl, hg4⟩
                    have hz4 := hz3.trans0 hg4; have hc4 := hg4.heap hc3 id; clear a3_0 a3_1 a3_2 a3_3 a3_4 a3_5 a3_6 a3_7 a3_8 a3_9 a3_10 a3_11 a3_12 b3_0 b3_1 b3_2 b3_3 b3_4 b3_5; have ha4 := hz4.heap HB1.out id; have la4 := zaa ha4; obtain ⟨a4_0, a4_1, a4_2, a4_3, a4_4, a4_5, a4_6, a4_7, a4_8, a4_9, a4_10, a4_11, a4_12⟩ := cells13 ha4; have lc4 := zaa hc4; obtain ⟨b4_0, b4_1, b4_2, b4_3, b4_4, b4_5⟩ := cells6 hc4; clear ha4)
       go_ret; exact ⟨rb (HW.out.symm), HF0.out.trans0 hz4⟩
     have hk' : (kd == 1) = false := beq_eq_false_iff_ne.2 hk
     rw [if_neg hk] at HMM; have HW := H_ HMM; clear HMM hk; go_enter Tryz.func70, Tryz.ntmps70
     go_wp2_with (go_at_call 72; with_reducible refine (HH.out _ HF0.out).mono ?_; rintro e w1 ⟨rfl, hz1⟩
                  have ha1 := hz1.heap HB1.out id; have la1 := zaa ha1; obtain ⟨a1_0, a1_1, a1_2, a1_3, a1_4, a1_5, a1_6, a1_7, a1_8, a1_9, a1_10, a1_11, a1_12⟩ := cells13 ha1; clear ha1)
     go_wp2_with (go_at_call 82; with_reducible refine (HS1.out _).mono ?_; rintro e w2 ⟨rfl, hg2⟩
                  have hz2 := (hz1.alloc _).trans0 hg2; have hc2 := hg2.heap (zad w1 (Obj.cells #[.string n1, .string n2, .int .i64 n3, .int .i64 n4, .int .i64 n5, .int .i64 n6] 99) _ rfl) id; clear a1_0 a1_1 a1_2 a1_3 a1_4 a1_5 a1_6 a1_7 a1_8 a1_9 a1_10 a1_11 a1_12; have ha2 := hz2.heap HB1.out id; have la2 := zaa ha2; obtain ⟨a2_0, a2_1, a2_2, a2_3, a2_4, a2_5, a2_6, a2_7, a2_8, a2_9, a2_10, a2_11, a2_12⟩ := cells13 ha2; have lc2 := zaa hc2; obtain ⟨b2_0, b2_1, b2_2, b2_3, b2_4, b2_5⟩ := cells6 hc2; clear ha2)
     go_wp2_with (go_at_call 71; with_reducible refine (HD.out _).mono ?_; rintro e w3 ⟨rfl, hg3⟩
                  have hz3 := hz2.trans0 hg3; have hc3 := hg3.heap hc2 id; clear a2_0 a2_1 a2_2 a2_3 a2_4 a2_5 a2_6 a2_7 a2_8 a2_9 a2_10 a2_11 a2_12 b2_0 b2_1 b2_2 b2_3 b2_4 b2_5; have ha3 := hz3.heap HB1.out id; have la3 := zaa ha3; obtain ⟨a3_0, a3_1, a3_2, a3_3, a3_4, a3_5, a3_6, a3_7, a3_8, a3_9, a3_10, a3_11, a3_12⟩ := cells13 ha3; have lc3 := zaa hc3; obtain ⟨b3_0, b3_1, b3_2, b3_3, b3_4, b3_5⟩ := cells6 hc3; clear ha3)
     go_ret; exact ⟨rb (HW.out.symm), HF0.out.trans0 hz3⟩
 | false =>
   cases hkk : keq q1 p1 with
   | false =>
     have hk1 : (q1.toList == p1.toList) = false := hkk; have hk2 : (q1.toList != p1.toList) = true := (by unfold bne; rw [hk1]; rfl); have HW : Hid (false = m) := H_ (by rw [HM.out, if_pos (.inl ⟨rfl, .inl hkk⟩)]); clear HM hkk; go_enter Tryz.func70, Tryz.ntmps70
     go_wp2_with (go_at_call 72; with_reducible refine (HH.out _ HF0.out).mono ?_; rintro e w1 ⟨rfl, hz1⟩
                  have ha1 := hz1.heap HB1.out id; have la1 := zaa ha1; obtain ⟨a1_0, a1_1, a1_2, a1_3, a1_4, a1_5, a1_6, a1_7, a1_8, a1_9, a1_10, a1_11, a1_12⟩ := cells13 ha1; clear ha1)
     go_wp2_with (go_at_call 82; with_reducible refine (HS1.out _).mono ?_; rintro e w2 ⟨rfl, hg2⟩
                  have hz2 := (hz1.alloc _).trans0 hg2; have hc2 := hg2.heap (zad w1 (Obj.cells #[.string n1, .string n2, .int .i64 n3, .int .i64 n4, .int .i64 n5, .int .i64 n6] 99) _ rfl) id; clear a1_0 a1_1 a1_2 a1_3 a1_4 a1_5 a1_6 a1_7 a1_8 a1_9 a1_10 a1_11 a1_12; have ha2 := hz2.heap HB1.out id; have la2 := zaa ha2; obtain ⟨a2_0, a2_1, a2_2, a2_3, a2_4, a2_5, a2_6, a2_7, a2_8, a2_9, a2_10, a2_11, a2_12⟩ := cells13 ha2; have lc2 := zaa hc2; obtain ⟨b2_0, b2_1, b2_2, b2_3, b2_4, b2_5⟩ := cells6 hc2; clear ha2)
     go_ret; exact ⟨rb (HW.out), HF0.out.trans0 hz2⟩
   | true =>
     have hk1 : (q1.toList == p1.toList) = true := hkk; have hk2 : (q1.toList != p1.toList) = false := (by unfold bne; rw [hk1]; rfl)
     cases ma with
     | false =>
       have HW : Hid (false = m) := H_ (by rw [HM.out, if_pos (.inl ⟨rfl, .inr rfl⟩)]); clear HM hkk; go_enter Tryz.func70, Tryz.ntmps70
       go_wp2_with (go_at_call 72; with_reducible refine (HH.out _ HF0.out).mono ?_; rintro e w1 ⟨rfl, hz1⟩
                    have ha1 := hz1.heap HB1.out id; have la1 := zaa ha1; obtain ⟨a1_0, a1_1, a1_2, a1_3, a1_4, a1_5, a1_6, a1_7, a1_8, a1_9, a1_10, a1_11, a1_12⟩ := cells13 ha1; clear ha1)
       go_wp2_with (go_at_call 82; with_reducible refine (HS1.out _).mono ?_; rintro e w2 ⟨rfl, hg2⟩
                    have hz2 := (hz1.alloc _).trans0 hg2; have hc2 := hg2.heap (zad w1 (Obj.cells #[.string n1, .string n2, .int .i64 n3, .int .i64 n4, .int .i64 n5, .int .i64 n6] 99) _ rfl) id; clear a1_0 a1_1 a1_2 a1_3 a1_4 a1_5 a1_6 a1_7 a1_8 a1_9 a1_10 a1_11 a1_12; have ha2 := hz2.heap HB1.out id; have la2 := zaa ha2; obtain ⟨a2_0, a2_1, a2_2, a2_3, a2_4, a2_5, a2_6, a2_7, a2_8, a2_9, a2_10, a2_11, a2_12⟩ := cells13 ha2; have lc2 := zaa hc2; obtain ⟨b2_0, b2_1, b2_2, b2_3, b2_4, b2_5⟩ := cells6 hc2; clear ha2)
       go_wp2_with (go_at_call 69; with_reducible refine (HA.out _).mono ?_; rintro e w3 ⟨rfl, hg3⟩
                    have hz3 := hz2.trans0 hg3; have hc3 := hg3.heap hc2 id; clear a2_0 a2_1 a2_2 a2_3 a2_4 a2_5 a2_6 a2_7 a2_8 a2_9 a2_10 a2_11 a2_12 b2_0 b2_1 b2_2 b2_3 b2_4 b2_5; have ha3 := hz3.heap HB1.out id; have la3 := zaa ha3; obtain ⟨a3_0, a3_1, a3_2, a3_3, a3_4, a3_5, a3_6, a3_7, a3_8, a3_9, a3_10, a3_11, a3_12⟩ := cells13 ha3; have lc3 := zaa hc3; obtain ⟨b3_0, b3_1, b3_2, b3_3, b3_4, b3_5⟩ := cells6 hc3; clear ha3)
       go_ret; exact ⟨rb (HW.out), HF0.out.trans0 hz3⟩
     | true =>
       cases md with
       | false =>
         have HW : Hid (false = m) := H_ (by rw [HM.out, if_pos (.inr rfl)]); clear HM hkk; go_enter Tryz.func70, Tryz.ntmps70
         go_wp2_with (go_at_call 72; with_reducible refine (HH.out _ HF0.out).mono ?_; rintro e w1 ⟨rfl, hz1⟩
                      have ha1 := hz1.heap HB1.out id; have la1 := zaa ha1; obtain ⟨a1_0, a1_1, a1_2, a1_3, a1_4, a1_5, a1_6, a1_7, a1_8, a1_9, a1_10, a1_11, a1_12⟩ := cells13 ha1; clear ha1)
         go_wp2_with (go_at_call 82; with_reducible refine (HS1.out _).mono ?_; rintro e w2 ⟨rfl, hg2⟩
                      have hz2 := (hz1.alloc _).trans0 hg2; have hc2 := hg2.heap (zad w1 (Obj.cells #[.string n1, .string n2, .int .i64 n3, .int .i64 n4, .int .i64 n5, .int .i64 n6] 99) _ rfl) id; clear a1_0 a1_1 a1_2 a1_3 a1_4 a1_5 a1_6 a1_7 a1_8 a1_9 a1_10 a1_11 a1_12; have ha2 := hz2.heap HB1.out id; have la2 := zaa ha2; obtain ⟨a2_0, a2_1, a2_2, a2_3, a2_4, a2_5, a2_6, a2_7, a2_8, a2_9, a2_10, a2_11, a2_12⟩ := cells13 ha2; have lc2 := zaa hc2; obtain ⟨b2_0, b2_1, b2_2, b2_3, b2_4, b2_5⟩ := cells6 hc2; clear ha2)
         go_wp2_with (go_at_call 69; with_reducible refine (HA.out _).mono ?_; rintro e w3 ⟨rfl, hg3⟩
                      have hz3 := hz2.trans0 hg3; have hc3 := hg3.heap hc2 id; clear a2_0 a2_1 a2_2 a2_3 a2_4 a2_5 a2_6 a2_7 a2_8 a2_9 a2_10 a2_11 a2_12 b2_0 b2_1 b2_2 b2_3 b2_4 b2_5; have ha3 := hz3.heap HB1.out id; have la3 := zaa ha3; obtain ⟨a3_0, a3_1, a3_2, a3_3, a3_4, a3_5, a3_6, a3_7, a3_8, a3_9, a3_10, a3_11, a3_12⟩ := cells13 ha3; have lc3 := zaa hc3; obtain ⟨b3_0, b3_1, b3_2, b3_3, b3_4, b3_5⟩ := cells6 hc3; clear ha3)
         go_wp2_with (go_at_call 71; with_reducible refine (HD.out _).mono ?_; rintro e w4 ⟨rfl, hg4⟩
                      have hz4 := hz3.trans0 hg4; have hc4 := hg4.heap hc3 id; clear a3_0 a3_1 a3_2 a3_3 a3_4 a3_5 a3_6 a3_7 a3_8 a3_9 a3_10 a3_11 a3_12 b3_0 b3_1 b3_2 b3_3 b3_4 b3_5; have ha4 := hz4.heap HB1.out id; have la4 := zaa ha4; obtain ⟨a4_0, a4_1, a4_2, a4_3, a4_4, a4_5, a4_6, a4_7, a4_8, a4_9, a4_10, a4_11, a4_12⟩ := cells13 ha4; have lc4 := zaa hc4; obtain ⟨b4_0, b4_1, b4_2, b4_3, b4_4, b4_5⟩ := cells6 hc4; clear ha4)
         go_ret; exact ⟨rb (HW.out), HF0.out.trans0 hz4⟩
       | true =>
         have HMM := HM.out; rw [if_neg (by rintro (⟨_, h | h⟩ | h) <;> first | (rw [hkk] at h; cases h) | cases h)] at HMM; clear HM hkk; by_cases hk : kd = 1
         · subst hk
           rw [if_pos rfl] at HMM; have HW := H_ HMM; clear HMM; go_enter Tryz.func70, Tryz.ntmps70
           go_wp2_with (go_at_call 72; with_reducible refine (HH.out _ HF0.out).mono ?_; rintro e w1 ⟨rfl, hz1⟩
                        have ha1 := hz1.heap HB1.out id; have la1 := zaa ha1; obtain ⟨a1_0, a1_1, a1_2, a1_3, a1_4, a1_5, a1_6, a1_7, a1_8, a1_9, a1_10, a1_11, a1_12⟩ := cells13 ha1; clear ha1)
           go_wp2_with (go_at_call 82; with_reducible refine (HS1.out _).mono ?_; rintro e w2 ⟨rfl, hg2⟩
                        have hz2 := (hz1.alloc _).trans0 hg2; have hc2 := hg2.heap (zad w1 (Obj.cells #[.string n1, .string n2, .int .i64 n3, .int .i64 n4, .int .i64 n5, .int .i64 n6] 99) _ rfl) id; clear a1_0 a1_1 a1_2 a1_3 a1_4 a1_5 a1_6 a1_7 a1_8 a1_9 a1_10 a1_11 a1_12; have ha2 := hz2.heap HB1.out id; have la2 := zaa ha2; obtain ⟨a2_0, a2_1, a2_2, a2_3, a2_4, a2_5, a2_6, a2_7, a2_8, a2_9, a2_10, a2_11, a2_12⟩ := cells13 ha2; have lc2 := zaa hc2; obtain ⟨b2_0, b2_1, b2_2, b2_3, b2_4, b2_5⟩ := cells6 hc2; clear ha2)
           go_wp2_with (go_at_call 69; with_reducible refine (HA.out _).mono ?_; rintro e w3 ⟨rfl, hg3⟩
                        have hz3 := hz2.trans0 hg3; have hc3 := hg3.heap hc2 id; clear a2_0 a2_1 a2_2 a2_3 a2_4 a2_5 a2_6 a2_7 a2_8 a2_9 a2_10 a2_11 a2_12 b2_0 b2_1 b2_2 b2_3 b2_4 b2_5; have ha3 := hz3.heap HB1.out id; have la3 := zaa ha3; obtain ⟨a3_0, a3_1, a3_2, a3_3, a3_4, a3_5, a3_6, a3_7, a3_8, a3_9, a3_10, a3_11, a3_12⟩ := cells13 ha3; have lc3 := zaa hc3; obtain ⟨b3_0, b3_1, b3_2, b3_3, b3_4, b3_5⟩ := cells6 hc3; clear ha3)
           go_wp2_with (go_at_call 71; with_reducible refine (HD.out _).mono ?_; rintro e w4 ⟨rfl, hg4⟩
                        have hz4 := hz3.trans0 hg4; have hc4 := hg4.heap hc3 id; clear a3_0 a3_1 a3_2 a3_3 a3_4 a3_5 a3_6 a3_7 a3_8 a3_9 a3_10 a3_11 a3_12 b3_0 b3_1 b3_2 b3_3 b3_4 b3_5; have ha4 := hz4.heap HB1.out id; have la4 := zaa ha4; obtain ⟨a4_0, a4_1, a4_2, a4_3, a4_4, a4_5, a4_6, a4_7, a4_8, a4_9, a4_10, a4_11, a4_12⟩ := cells13 ha4; have lc4 := zaa hc4; obtain ⟨b4_0, b4_1, b4_2, b4_3, b4_4, b4_5⟩ := cells6 hc4; clear ha4)
           go_wp2_with (go_at_call 82; with_reducible refine (HS2.out _).mono ?_; rintro e w5 ⟨rfl, hg5⟩
                        have hz5 := hz4.trans0 hg5; have hc5 := hg5.heap hc4 id; clear a4_0 a4_1 a4_2 a4_3 a4_4 a4_5 a4_6 a4_7 a4_8 a4_9 a4_10 a4_11 a4_12 b4_0 b4_1 b4_2 b4_3 b4_4 b4_5; have ha5 := hz5.heap HB1.out id; have la5 := zaa ha5; obtain ⟨a5_0, a5_1, a5_2, a5_3, a5_4, a5_5, a5_6, a5_7, a5_8, a5_9, a5_10, a5_11, a5_12⟩ := cells13 ha5; have lc5 := zaa hc5; obtain ⟨b5_0, b5_1, b5_2, b5_3, b5_4, b5_5⟩ := cells6 hc5; clear ha5)
           go_ret; exact ⟨rb (HW.out.symm), HF0.out.trans0 hz5⟩
         have hk' : (kd == 1) = false := beq_eq_false_iff_ne.2 hk
         rw [if_neg hk] at HMM; have HW := H_ HMM; clear HMM hk; go_enter Tryz.func70, Tryz.ntmps70
         go_wp2_with (go_at_call 72; with_reducible refine (HH.out _ HF0.out).mono ?_; rintro e w1 ⟨rfl, hz1⟩
                      have ha1 := hz1.heap HB1.out id; have la1 := zaa ha1; obtain ⟨a1_0, a1_1, a1_2, a1_3, a1_4, a1_5, a1_6, a1_7, a1_8, a1_9, a1_10, a1_11, a1_12⟩ := cells13 ha1; clear ha1)
         go_wp2_with (go_at_call 82; with_reducible refine (HS1.out _).mono ?_; rintro e w2 ⟨rfl, hg2⟩
                      have hz2 := (hz1.alloc _).trans0 hg2; have hc2 := hg2.heap (zad w1 (Obj.cells #[.string n1, .string n2, .int .i64 n3, .int .i64 n4, .int .i64 n5, .int .i64 n6] 99) _ rfl) id; clear a1_0 a1_1 a1_2 a1_3 a1_4 a1_5 a1_6 a1_7 a1_8 a1_9 a1_10 a1_11 a1_12; have ha2 := hz2.heap HB1.out id; have la2 := zaa ha2; obtain ⟨a2_0, a2_1, a2_2, a2_3, a2_4, a2_5, a2_6, a2_7, a2_8, a2_9, a2_10, a2_11, a2_12⟩ := cells13 ha2; have lc2 := zaa hc2; obtain ⟨b2_0, b2_1, b2_2, b2_3, b2_4, b2_5⟩ := cells6 hc2; clear ha2)
         go_wp2_with (go_at_call 69; with_reducible refine (HA.out _).mono ?_; rintro e w3 ⟨rfl, hg3⟩
                      have hz3 := hz2.trans0 hg3; have hc3 := hg3.heap hc2 id; clear a2_0 a2_1 a2_2 a2_3 a2_4 a2_5 a2_6 a2_7 a2_8 a2_9 a2_10 a2_11 a2_12 b2_0 b2_1 b2_2 b2_3 b2_4 b2_5; have ha3 := hz3.heap HB1.out id; have la3 := zaa ha3; obtain ⟨a3_0, a3_1, a3_2, a3_3, a3_4, a3_5, a3_6, a3_7, a3_8, a3_9, a3_10, a3_11, a3_12⟩ := cells13 ha3; have lc3 := zaa hc3; obtain ⟨b3_0, b3_1, b3_2, b3_3, b3_4, b3_5⟩ := cells6 hc3; clear ha3)
         go_wp2_with (go_at_call 71; with_reducible refine (HD.out _).mono ?_; rintro e w4 ⟨rfl, hg4⟩
                      have hz4 := hz3.trans0 hg4; have hc4 := hg4.heap hc3 id; clear a3_0 a3_1 a3_2 a3_3 a3_4 a3_5 a3_6 a3_7 a3_8 a3_9 a3_10 a3_11 a3_12 b3_0 b3_1 b3_2 b3_3 b3_4 b3_5; have ha4 := hz4.heap HB1.out id; have la4 := zaa ha4; obtain ⟨a4_0, a4_1, a4_2, a4_3, a4_4, a4_5, a4_6, a4_7, a4_8, a4_9, a4_10, a4_11, a4_12⟩ := cells13 ha4; have lc4 := zaa hc4; obtain ⟨b4_0, b4_1, b4_2, b4_3, b4_4, b4_5⟩ := cells6 hc4; clear ha4)
         go_ret; exact ⟨rb (HW.out.symm), HF0.out.trans0 hz4⟩
open Go Go.Proofs
theorem zas {P : Program} {C : World → Prop} {id : Nat} {Q : Exit → Act → World → Prop} {a : Act} {w : World} {l : List Oper} (hm : P.follows .mixedOrders = true) (hB : Region.lexB .any l.toArray = true)
 (hC : C w.drew) (h : wpQuiet P l.toArray C (fun a' => ∀ w', C w' → Q .normal a' w') l a) : (Code.region id l.toArray true).wp P Q a w :=
 wp_region_quiet hm hB hC (by simpa using h)
end Go.Proofs.YthljnnjpmdgkoaaGreat