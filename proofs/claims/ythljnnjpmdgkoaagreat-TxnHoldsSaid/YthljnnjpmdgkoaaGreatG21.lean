/- Lemmas for the claim. Conditions stand in each. -/
import Derived.Test.YthljnnjpmdgkoaaGreatG20
import Derived.Deep.CutBlock
import Derived.Deep.RegionHeld3
namespace Go.Proofs.YthljnnjpmdgkoaaGreat
open Go Go.Proofs Go.RowKit Go.PlainAid
set_option maxRecDepth 100000
theorem zlj (s : ByteArray) : ∀ (g i g' : Nat), s.size ≤ i + g → g ≤ g' → refK s g' i = refK s g i
 | 0, i, g', h, _ => by
   cases g' with
   | zero => rfl
   | succ g' => unfold refK; rw [if_neg (by omega)]
 | g + 1, i, g', h, hg => by
   cases g' with
   | zero => omega
   | succ g' =>
     unfold refK; by_cases hi : i < s.size
     · rw [if_pos hi, if_pos hi]
       split
       · rfl
       rename_i hn
       have : 1 ≤ oneOf (s.extract i s.size) := by
        rcases Nat.eq_zero_or_pos (oneOf (s.extract i s.size)) with h0 | h0
        · exact absurd (.inl h0) hn
        exact h0
       exact zlj s g _ g' (by omega) (by omega)
     rw [if_neg hi, if_neg hi]
set_option maxHeartbeats 4000000 in
theorem zen (w : World) (s : ByteArray) (hs : s.size ≤ 1099511627776) : Calls Tryz.prog 124 #[.string s] w fun e w' => e = .returned (.int .i64 (keyE s)) ∧ Fr No w w' := by
 have hE := zqo s; unfold znh at hE; have HE := H_ hE; clear hE; by_cases h0 : s.size = 0
 · have hl : s.toList = [] := by
    rw [Lib.toList_data]; exact List.eq_nil_of_length_eq_zero (by simpa using h0)
   have hl' : s.toList.isEmpty = true := (by rw [hl]; rfl); have hl'' : (s.toList == []) = true := (by rw [hl]; rfl); have e1 : keyE s = 30 := (by rw [← HE.out, if_pos h0]); have E1 := H_ e1; clear e1; clear hl; go_enter Tryz.func124, Tryz.ntmps124; go_wp2; go_ret; exact ⟨by rw [E1.out]; rfl, Fr.refl No w⟩
 have hne : s.toList ≠ [] := by
  rw [Lib.toList_data]; intro h; have := congrArg List.length h; simp at this; exact h0 (by rw [this]; rfl)
 have hl' : s.toList.isEmpty = false := (by simpa using hne); have hl'' : (s.toList == []) = false := (by simpa using hne); rw [if_neg h0] at HE; have hb := get_bt s; clear hne; go_enter Tryz.func124, Tryz.ntmps124; go_wp2
 go_loopg [3] s.size (fun g s3 wr => ∃ i : Nat, s3 = .int .i64 i ∧ i + g = s.size ∧ Hid (refK s s.size 0 = refK s g i) ∧ w = wr)
 case atStart => exact ⟨0, rfl, by simp, H_ rfl, rfl⟩
 case round =>
  obtain ⟨i, rfl, hi, HK, rfl⟩ := hrel
  cases gk with
  | zero =>
    have hil : ¬ (i : Int) < (s.size : Int) := (by omega); have hkt : refK s s.size 0 = true := (by rw [HK.out]; rfl); by_cases h64 : 64 < s.size
    · have h64' : (64 : Int) < (s.size : Int) := by omega
      have e1 : keyE s = 31 := (by rw [← HE.out, hkt, if_neg (by simp), if_pos h64]); have E1 := H_ e1; clear e1; clear hkt; go_wp2; go_ret; exact ⟨by rw [E1.out]; rfl, Fr.refl No w⟩
    have h64' : ¬ (64 : Int) < (s.size : Int) := by omega
    have e1 : keyE s = 0 := (by rw [← HE.out, hkt, if_neg (by simp), if_neg h64]); have E1 := H_ e1; clear e1; clear hkt; go_wp2; go_ret; exact ⟨by rw [E1.out]; rfl, Fr.refl No w⟩
  | succ g =>
    have hil : (i : Int) < (s.size : Int) := (by omega); have hil' : i < s.size := (by omega); have hile : (i : Int) ≤ (s.size : Int) := (by omega); have hoc := fun W => zqs W (s.extract i s.size) (by simp; omega); have hK1 : refK s (g + 1) i = if oneOf (s.extract i s.size) = 0 ∨ bt s i = 0 then false else refK s g (i + oneOf (s.extract i s.size)) := (by rw [refK]; rw [if_pos hil'])
    have hst : oneOf (s.extract i s.size) ≠ 0 → 1 ≤ oneOf (s.extract i s.size) ∧ i + oneOf (s.extract i s.size) ≤ s.size := by
     intro hn; rcases one_at s i hil' with ⟨_, h2⟩ | ⟨_, h2, _, h4, _⟩
     · exact absurd h2 hn
     exact ⟨h2, h4⟩
    generalize oneOf (s.extract i s.size) = n at *; have HO := H_ hoc; clear hoc; have HK1 := H_ hK1; clear hK1; by_cases t1 : n = 0
    · subst t1
      have e0 : refK s s.size 0 = false := (by rw [HK.out, HK1.out]; exact if_pos (.inl rfl)); have e1 : keyE s = 30 := (by rw [← HE.out, e0]; rfl); have E1 := H_ e1; clear e1; clear hst; go_wp2_with (go_at_call 164; refine (HO.out _).mono ?_; rintro e w' ⟨rfl, rfl⟩); go_ret; exact ⟨by rw [E1.out]; rfl, Fr.refl No w⟩
    obtain ⟨hn1, hn2⟩ := hst t1
    have t1' : ((n : Int) == 0) = false := (by simpa using t1); have hb0 := bt_nonneg s i; have hb1 := bt_le s i; clear hst; by_cases t2 : bt s i = 0
    · have t2' : (bt s i == 0) = true := by simpa using t2
      have e0 : refK s s.size 0 = false := (by rw [HK.out, HK1.out]; exact if_pos (.inr t2)); have e1 : keyE s = 30 := (by rw [← HE.out, e0]; rfl); have E1 := H_ e1; clear e1; clear t2; go_wp2_with (go_at_call 164; refine (HO.out _).mono ?_; rintro e w' ⟨rfl, rfl⟩); go_ret; exact ⟨by rw [E1.out]; rfl, Fr.refl No w⟩
    have t2' : (bt s i == 0) = false := by simpa using t2
    have e1 : refK s s.size 0 = refK s (s.size - (i + n)) (i + n) := by
     rw [HK.out, HK1.out, if_neg (by omega)]; exact zlj s _ _ _ (by omega) (by omega)
    have E1 := H_ e1; clear e1; go_wp2_with (go_at_call 164; refine (HO.out _).mono ?_; rintro e w' ⟨rfl, rfl⟩); go_roundg (s.size - (i + n))
    case rel => exact ⟨i + n, by go_num, by omega, E1, rfl⟩
    case measure => omega
theorem zir (w : World) (c : Cmp) (hs : c.key.size ≤ 1099511627776) : Calls Tryz.prog 79 #[cmpV c] w fun e w' => e = .returned (.int .i64 (cmpE c)) ∧ Fr No w w' := by
 have hk := fun W => zen W c.key hs; obtain ⟨c1, c2, c3, c4, c5⟩ := c; unfold cmpE cmpV; dsimp only at *; generalize keyE c1 = k at *; clear hs; by_cases h1 : k ≠ 0
 · have h1' : (k == 0) = false := by simpa using h1
   rw [if_pos h1]; go_enter Tryz.func79, Tryz.ntmps79; go_wp2_with (go_at_call 124; refine (hk _).mono ?_; rintro e w1 ⟨rfl, hf⟩); go_ret; exact ⟨rfl, ((Fr.refl No w).alloc _).trans0 hf⟩
 have h1' : (k == 0) = true := by simpa using h1
 rw [if_neg h1]; by_cases h2 : c2 < 1
 · rw [if_pos (.inl h2)]
   go_enter Tryz.func79, Tryz.ntmps79
   go_wp2_with (go_at_call 124; refine (hk _).mono ?_; rintro e w1 ⟨rfl, hf⟩
                have hb : w1.heap[w.heap.size]? = some (.cells #[.string c1, .int .i64 c2, .int .i64 c3, .int .i64 c4, .string c5] 53 (0, 0)) := hf.heap (zad _ _ _ rfl) id; have x1 : w1.cell? ⟨w.heap.size, 1, none⟩ = some (.int .i64 c2) := by simp [World.cell?, hb])
   go_ret; exact ⟨rfl, ((Fr.refl No w).alloc _).trans0 hf⟩
 by_cases h3 : 5 < c2
 · rw [if_pos (.inr h3)]
   go_enter Tryz.func79, Tryz.ntmps79
   go_wp2_with (go_at_call 124; refine (hk _).mono ?_; rintro e w1 ⟨rfl, hf⟩
                have hb : w1.heap[w.heap.size]? = some (.cells #[.string c1, .int .i64 c2, .int .i64 c3, .int .i64 c4, .string c5] 53 (0, 0)) := hf.heap (zad _ _ _ rfl) id; have x1 : w1.cell? ⟨w.heap.size, 1, none⟩ = some (.int .i64 c2) := by simp [World.cell?, hb])
   go_ret; exact ⟨rfl, ((Fr.refl No w).alloc _).trans0 hf⟩
 rw [if_neg (c := c2 < 1 ∨ 5 < c2) (by omega)]
 by_cases h4 : 1024 < c5.size
 · have h4' : (1024 : Int) < (c5.size : Int) := by omega
   rw [if_pos h4]; go_enter Tryz.func79, Tryz.ntmps79
   go_wp2_with (go_at_call 124; refine (hk _).mono ?_; rintro e w1 ⟨rfl, hf⟩
                have hb : w1.heap[w.heap.size]? = some (.cells #[.string c1, .int .i64 c2, .int .i64 c3, .int .i64 c4, .string c5] 53 (0, 0)) := hf.heap (zad _ _ _ rfl) id; have x1 : w1.cell? ⟨w.heap.size, 1, none⟩ = some (.int .i64 c2) := (by simp [World.cell?, hb]); have x4 : w1.cell? ⟨w.heap.size, 4, none⟩ = some (.string c5) := by simp [World.cell?, hb])
   go_ret; exact ⟨rfl, ((Fr.refl No w).alloc _).trans0 hf⟩
 have h4' : ¬ (1024 : Int) < (c5.size : Int) := by omega
 rw [if_neg h4]; by_cases h5 : c2 = 4
 · subst h5
   by_cases h6 : c4 = 0
   · subst h6
     rw [if_neg (by simp)]; go_enter Tryz.func79, Tryz.ntmps79
     go_wp2_with (go_at_call 124; refine (hk _).mono ?_; rintro e w1 ⟨rfl, hf⟩
                  have hb : w1.heap[w.heap.size]? = some (.cells #[.string c1, .int .i64 4, .int .i64 c3, .int .i64 0, .string c5] 53 (0, 0)) := hf.heap (zad _ _ _ rfl) id; have x1 : w1.cell? ⟨w.heap.size, 1, none⟩ = some (.int .i64 4) := (by simp [World.cell?, hb]); have x3 : w1.cell? ⟨w.heap.size, 3, none⟩ = some (.int .i64 0) := (by simp [World.cell?, hb]); have x4 : w1.cell? ⟨w.heap.size, 4, none⟩ = some (.string c5) := by simp [World.cell?, hb])
     go_ret; exact ⟨rfl, ((Fr.refl No w).alloc _).trans0 hf⟩
   have h6' : (c4 == 0) = false := by simpa using h6
   rw [if_pos (.inl ⟨rfl, h6⟩)]; go_enter Tryz.func79, Tryz.ntmps79
   go_wp2_with (go_at_call 124; refine (hk _).mono ?_; rintro e w1 ⟨rfl, hf⟩
                have hb : w1.heap[w.heap.size]? = some (.cells #[.string c1, .int .i64 4, .int .i64 c3, .int .i64 c4, .string c5] 53 (0, 0)) := hf.heap (zad _ _ _ rfl) id; have x1 : w1.cell? ⟨w.heap.size, 1, none⟩ = some (.int .i64 4) := (by simp [World.cell?, hb]); have x3 : w1.cell? ⟨w.heap.size, 3, none⟩ = some (.int .i64 c4) := (by simp [World.cell?, hb]); have x4 : w1.cell? ⟨w.heap.size, 4, none⟩ = some (.string c5) := by simp [World.cell?, hb])
   go_ret; exact ⟨rfl, ((Fr.refl No w).alloc _).trans0 hf⟩
 have h5' : (c2 == 4) = false := by simpa using h5
 by_cases h6 : c5.toList = []
 · have h6' : c5.toList.isEmpty = true := by rw [h6]; rfl
   have h6'' : (c5.toList == []) = true := (by rw [h6]; rfl); rw [if_neg (by simp [h5, h6])]; go_enter Tryz.func79, Tryz.ntmps79
   go_wp2_with (go_at_call 124; refine (hk _).mono ?_; rintro e w1 ⟨rfl, hf⟩
                have hb : w1.heap[w.heap.size]? = some (.cells #[.string c1, .int .i64 c2, .int .i64 c3, .int .i64 c4, .string c5] 53 (0, 0)) := hf.heap (zad _ _ _ rfl) id; have x1 : w1.cell? ⟨w.heap.size, 1, none⟩ = some (.int .i64 c2) := (by simp [World.cell?, hb]); have x3 : w1.cell? ⟨w.heap.size, 3, none⟩ = some (.int .i64 c4) := (by simp [World.cell?, hb]); have x4 : w1.cell? ⟨w.heap.size, 4, none⟩ = some (.string c5) := by simp [World.cell?, hb])
   go_ret; exact ⟨rfl, ((Fr.refl No w).alloc _).trans0 hf⟩
 have h6' : c5.toList.isEmpty = false := by simpa using h6
 have h6'' : (c5.toList == []) = false := (by simpa using h6); rw [if_pos (.inr ⟨h5, h6⟩)]; go_enter Tryz.func79, Tryz.ntmps79
 go_wp2_with (go_at_call 124; refine (hk _).mono ?_; rintro e w1 ⟨rfl, hf⟩
              have hb : w1.heap[w.heap.size]? = some (.cells #[.string c1, .int .i64 c2, .int .i64 c3, .int .i64 c4, .string c5] 53 (0, 0)) := hf.heap (zad _ _ _ rfl) id; have x1 : w1.cell? ⟨w.heap.size, 1, none⟩ = some (.int .i64 c2) := (by simp [World.cell?, hb]); have x3 : w1.cell? ⟨w.heap.size, 3, none⟩ = some (.int .i64 c4) := (by simp [World.cell?, hb]); have x4 : w1.cell? ⟨w.heap.size, 4, none⟩ = some (.string c5) := by simp [World.cell?, hb])
 go_ret; exact ⟨rfl, ((Fr.refl No w).alloc _).trans0 hf⟩
open Go Go.Proofs Go.RowKit
theorem rb {a b : Bool} (h : a = b) : Ending.returned (.bool a) = .returned (.bool b) := by rw [h]
set_option maxHeartbeats 8000000 in
theorem zgr (w : World) (x : Kv) (hx : x.key.size ≤ 1099511627776) (rev : Int) (hr : rev ≤ 1099511627777) :
 Calls Tryz.prog 69 #[kvV x, .int .i64 rev] w fun e w' => e = .returned (.bool (mayB x rev)) ∧ Fr No w w' := by
 have HK := H_ (fun W => zen W x.key hx); clear hx; obtain ⟨p1, p2, p3, p4, p5, p6⟩ := x
 have HM : Hid (mayB ⟨p1, p2, p3, p4, p5, p6⟩ rev = if keyE p1 ≠ 0 ∨ 1024 < p2.size ∨ p6 < 0 ∨ p3 < 1 ∨ p4 < p3 ∨ rev < p4 then false
  else if p4 = p3 then p5 == 1 else decide (2 ≤ p5) && decide (p5 ≤ p4 - p3 + 1)) := H_ rfl
 dsimp only at HK; unfold kvV; dsimp only; generalize hE : keyE p1 = E at *; generalize mayB ⟨p1, p2, p3, p4, p5, p6⟩ rev = m at *; clear hE; by_cases h1 : E = 0
 · subst h1
   by_cases h2 : 1024 < p2.size
   · have h2' : decide ((1024 : Int) < (p2.size : Int)) = true := decide_eq_true (by omega)
     have HW : Hid (false = m) := H_ (by rw [HM.out, if_pos (Or.inr (Or.inl h2))]); clear h2; go_enter Tryz.func69, Tryz.ntmps69
     go_wp2_with (go_at_call 124; refine (HK.out _).mono ?_; rintro e w1 ⟨rfl, hf1⟩
                  have hb := hf1.heap (zad w (Obj.cells #[.string p1, .string p2, .int .i64 p3, .int .i64 p4, .int .i64 p5, .int .i64 p6] 99) _ rfl) id; have lb := zaa hb; have c1 := cellAt hb 1 rfl; have c2 := cellAt hb 2 rfl; have c3 := cellAt hb 3 rfl; have c4 := cellAt hb 4 rfl; have c5 := cellAt hb 5 rfl; clear hb)
     go_ret; exact ⟨rb (HW.out), (((Fr.refl No w).alloc _).trans0 hf1)⟩
   have h2' : decide ((1024 : Int) < (p2.size : Int)) = false := decide_eq_false (by omega)
   by_cases h3 : p6 < 0
   · have h3' : decide (p6 < 0) = true := decide_eq_true (by omega)
     have HW : Hid (false = m) := H_ (by rw [HM.out, if_pos (Or.inr (Or.inr (Or.inl h3)))]); clear h3; go_enter Tryz.func69, Tryz.ntmps69
     go_wp2_with (go_at_call 124; refine (HK.out _).mono ?_; rintro e w1 ⟨rfl, hf1⟩
                  have hb := hf1.heap (zad w (Obj.cells #[.string p1, .string p2, .int .i64 p3, .int .i64 p4, .int .i64 p5, .int .i64 p6] 99) _ rfl) id; have lb := zaa hb; have c1 := cellAt hb 1 rfl; have c2 := cellAt hb 2 rfl; have c3 := cellAt hb 3 rfl; have c4 := cellAt hb 4 rfl; have c5 := cellAt hb 5 rfl; clear hb)
     go_ret; exact ⟨rb (HW.out), (((Fr.refl No w).alloc _).trans0 hf1)⟩
   have h3' : decide (p6 < 0) = false := decide_eq_false (by omega)
   by_cases h4 : p3 < 1
   · have h4' : decide (p3 < 1) = true := decide_eq_true (by omega)
     have HW : Hid (false = m) := H_ (by rw [HM.out, if_pos (Or.inr (Or.inr (Or.inr (Or.inl h4))))]); clear h4; go_enter Tryz.func69, Tryz.ntmps69
     go_wp2_with (go_at_call 124; refine (HK.out _).mono ?_; rintro e w1 ⟨rfl, hf1⟩
                  have hb := hf1.heap (zad w (Obj.cells #[.string p1, .string p2, .int .i64 p3, .int .i64 p4, .int .i64 p5, .int .i64 p6] 99) _ rfl) id; have lb := zaa hb; have c1 := cellAt hb 1 rfl; have c2 := cellAt hb 2 rfl; have c3 := cellAt hb 3 rfl; have c4 := cellAt hb 4 rfl; have c5 := cellAt hb 5 rfl; clear hb)
     go_ret; exact ⟨rb (HW.out), (((Fr.refl No w).alloc _).trans0 hf1)⟩
   have h4' : decide (p3 < 1) = false := decide_eq_false (by omega)
   by_cases h5 : p4 < p3
   · have h5' : decide (p4 < p3) = true := decide_eq_true (by omega)
     have HW : Hid (false = m) := H_ (by rw [HM.out, if_pos (Or.inr (Or.inr (Or.inr (Or.inr (Or.inl h5)))))]); clear h5; go_enter Tryz.func69, Tryz.ntmps69
     go_wp2_with (go_at_call 124; refine (HK.out _).mono ?_; rintro e w1 ⟨rfl, hf1⟩
                  have hb := hf1.heap (zad w (Obj.cells #[.string p1, .string p2, .int .i64 p3, .int .i64 p4, .int .i64 p5, .int .i64 p6] 99) _ rfl) id; have lb := zaa hb; have c1 := cellAt hb 1 rfl; have c2 := cellAt hb 2 rfl; have c3 := cellAt hb 3 rfl; have c4 := cellAt hb 4 rfl; have c5 := cellAt hb 5 rfl; clear hb)
     go_ret; exact ⟨rb (HW.out), (((Fr.refl No w).alloc _).trans0 hf1)⟩
   have h5' : decide (p4 < p3) = false := decide_eq_false (by omega)
   by_cases h6 : rev < p4
   · have h6' : decide (rev < p4) = true := decide_eq_true (by omega)
     have HW : Hid (false = m) := H_ (by rw [HM.out, if_pos (Or.inr (Or.inr (Or.inr (Or.inr (Or.inr (h6))))))]); clear h6; go_enter Tryz.func69, Tryz.ntmps69
     go_wp2_with (go_at_call 124; refine (HK.out _).mono ?_; rintro e w1 ⟨rfl, hf1⟩
                  have hb := hf1.heap (zad w (Obj.cells #[.string p1, .string p2, .int .i64 p3, .int .i64 p4, .int .i64 p5, .int .i64 p6] 99) _ rfl) id; have lb := zaa hb; have c1 := cellAt hb 1 rfl; have c2 := cellAt hb 2 rfl; have c3 := cellAt hb 3 rfl; have c4 := cellAt hb 4 rfl; have c5 := cellAt hb 5 rfl; clear hb)
     go_ret; exact ⟨rb (HW.out), (((Fr.refl No w).alloc _).trans0 hf1)⟩
   have h6' : decide (rev < p4) = false := decide_eq_false (by omega)
   have HMM := HM.out; rw [if_neg (by rintro (h | h | h | h | h | h) <;> first | exact h rfl | omega)] at HMM; by_cases h7 : p4 = p3
   · rw [if_pos h7] at HMM
     have h7' : (p4 == p3) = true := beq_iff_eq.2 h7; have HW : Hid ((p5 == 1) = m) := H_ HMM.symm; clear HMM HM h7; go_enter Tryz.func69, Tryz.ntmps69
     go_wp2_with (go_at_call 124; refine (HK.out _).mono ?_; rintro e w1 ⟨rfl, hf1⟩
                  have hb := hf1.heap (zad w (Obj.cells #[.string p1, .string p2, .int .i64 p3, .int .i64 p4, .int .i64 p5, .int .i64 p6] 99) _ rfl) id; have lb := zaa hb; have c1 := cellAt hb 1 rfl; have c2 := cellAt hb 2 rfl; have c3 := cellAt hb 3 rfl; have c4 := cellAt hb 4 rfl; have c5 := cellAt hb 5 rfl; clear hb)
     go_ret; exact ⟨rb (HW.out), (((Fr.refl No w).alloc _).trans0 hf1)⟩
   rw [if_neg h7] at HMM
   have h7' : (p4 == p3) = false := beq_eq_false_iff_ne.2 h7; by_cases h8 : 2 ≤ p5
   · have h8' : decide (2 ≤ p5) = true := decide_eq_true h8
     have h8'' : decide (p5 ≥ 2) = true := decide_eq_true h8; rw [h8', Bool.true_and] at HMM; have HW : Hid (decide (p5 ≤ p4 - p3 + 1) = m) := H_ HMM.symm; clear HMM HM; have h9 : 0 ≤ p4 - p3 := (by omega); have h9' : p4 - p3 ≤ 1099511627777 := (by omega); go_enter Tryz.func69, Tryz.ntmps69
     go_wp2_with (go_at_call 124; refine (HK.out _).mono ?_; rintro e w1 ⟨rfl, hf1⟩
                  have hb := hf1.heap (zad w (Obj.cells #[.string p1, .string p2, .int .i64 p3, .int .i64 p4, .int .i64 p5, .int .i64 p6] 99) _ rfl) id; have lb := zaa hb; have c1 := cellAt hb 1 rfl; have c2 := cellAt hb 2 rfl; have c3 := cellAt hb 3 rfl; have c4 := cellAt hb 4 rfl; have c5 := cellAt hb 5 rfl; clear hb)
     go_ret; exact ⟨rb (HW.out), (((Fr.refl No w).alloc _).trans0 hf1)⟩
   have h8' : decide (2 ≤ p5) = false := decide_eq_false h8
   have h8'' : decide (p5 ≥ 2) = false := decide_eq_false h8; rw [h8', Bool.false_and] at HMM; have HW : Hid (false = m) := H_ HMM.symm; clear HMM HM; go_enter Tryz.func69, Tryz.ntmps69
   go_wp2_with (go_at_call 124; refine (HK.out _).mono ?_; rintro e w1 ⟨rfl, hf1⟩
                have hb := hf1.heap (zad w (Obj.cells #[.string p1, .string p2, .int .i64 p3, .int .i64 p4, .int .i64 p5, .int .i64 p6] 99) _ rfl) id; have lb := zaa hb; have c1 := cellAt hb 1 rfl; have c2 := cellAt hb 2 rfl; have c3 := cellAt hb 3 rfl; have c4 := cellAt hb 4 rfl; have c5 := cellAt hb 5 rfl; clear hb)
   go_ret; exact ⟨rb (HW.out), (((Fr.refl No w).alloc _).trans0 hf1)⟩
 have h1' : (E != 0) = true := by rw [bne_iff_ne]; exact h1
 have h1'' : (E == 0) = false := beq_eq_false_iff_ne.2 h1; have HW : Hid (false = m) := H_ (by rw [HM.out, if_pos (.inl h1)]); clear h1 HM; go_enter Tryz.func69, Tryz.ntmps69
 go_wp2_with (go_at_call 124; refine (HK.out _).mono ?_; rintro e w1 ⟨rfl, hf1⟩
              have hb := hf1.heap (zad w (Obj.cells #[.string p1, .string p2, .int .i64 p3, .int .i64 p4, .int .i64 p5, .int .i64 p6] 99) _ rfl) id; have lb := zaa hb; have c1 := cellAt hb 1 rfl; have c2 := cellAt hb 2 rfl; have c3 := cellAt hb 3 rfl; have c4 := cellAt hb 4 rfl; have c5 := cellAt hb 5 rfl; clear hb)
 go_ret; exact ⟨rb (HW.out), (((Fr.refl No w).alloc _).trans0 hf1)⟩
set_option maxHeartbeats 16000000 in
theorem zfw (w : World) (x : Ev) (was : Kv) (hx : x.kv.key.size ≤ 1099511627776) (rev : Int) :
 Calls Tryz.prog 71 #[evV x, kvV was, .int .i64 rev] w fun e w' => e = .returned (.bool (madeB x was rev)) ∧ Fr No w w' := by
 have HK := H_ (fun W => zen W x.kv.key hx); clear hx; obtain ⟨kd, ⟨p1, p2, p3, p4, p5, p6⟩, ⟨q1, q2, q3, q4, q5, q6⟩⟩ := x; obtain ⟨r1, r2, r3, r4, r5, r6⟩ := was; have hS1 := fun W => zcb W ⟨q1, q2, q3, q4, q5, q6⟩ ⟨r1, r2, r3, r4, r5, r6⟩; have hS2 := fun W => zcb W ⟨p1, p2, p3, p4, p5, p6⟩ ⟨p1, ⟨#[]⟩, 0, rev, 0, 0⟩
 have HM : Hid (madeB ⟨kd, ⟨p1, p2, p3, p4, p5, p6⟩, ⟨q1, q2, q3, q4, q5, q6⟩⟩ ⟨r1, r2, r3, r4, r5, r6⟩ rev = if keyE p1 ≠ 0 ∨ p4 ≠ rev ∨ sameB ⟨q1, q2, q3, q4, q5, q6⟩ ⟨r1, r2, r3, r4, r5, r6⟩ = false then false
  else if kd = 2 then decide (0 < r5) && sameB ⟨p1, p2, p3, p4, p5, p6⟩ ⟨p1, ⟨#[]⟩, 0, rev, 0, 0⟩
  else (kd == 1) && ((p3 == if r5 = 0 then rev else r3) && ((p5 == wrap64 (r5 + 1)) && (decide (p2.size ≤ 1024) && decide (0 ≤ p6))))) := H_ rfl
 unfold kvV at hS1 hS2; dsimp only at HK hS1 hS2; unfold evV kvV; dsimp only; generalize hE : keyE p1 = E at *; generalize madeB ⟨kd, ⟨p1, p2, p3, p4, p5, p6⟩, ⟨q1, q2, q3, q4, q5, q6⟩⟩ ⟨r1, r2, r3, r4, r5, r6⟩ rev = m at *; generalize hs1 : sameB ⟨q1, q2, q3, q4, q5, q6⟩ ⟨r1, r2, r3, r4, r5, r6⟩ = s1 at *; generalize hs2 : sameB ⟨p1, p2, p3, p4, p5, p6⟩ ⟨p1, ⟨#[]⟩, 0, rev, 0, 0⟩ = s2 at *; have HS1 := H_ hS1; have HS2 := H_ hS2; clear hE hs1 hs2 hS1 hS2; have hb1 := zal (zad w (Obj.cells #[.int .i64 kd, .string p1, .string p2, .int .i64 p3, .int .i64 p4, .int .i64 p5, .int .i64 p6, .string q1, .string q2, .int .i64 q3, .int .i64 q4, .int .i64 q5, .int .i64 q6] 101) _ rfl) (Obj.cells #[.string r1, .string r2, .int .i64 r3, .int .i64 r4, .int .i64 r5, .int .i64 r6] 99)
 have hb2 := zad (w.alloc (Obj.cells #[.int .i64 kd, .string p1, .string p2, .int .i64 p3, .int .i64 p4, .int .i64 p5, .int .i64 p6, .string q1, .string q2, .int .i64 q3, .int .i64 q4, .int .i64 q5, .int .i64 q6] 101)) (Obj.cells #[.string r1, .string r2, .int .i64 r3, .int .i64 r4, .int .i64 r5, .int .i64 r6] 99) (w.heap.size + 1) (by simp); have hf0 : Fr No w ((w.alloc (Obj.cells #[.int .i64 kd, .string p1, .string p2, .int .i64 p3, .int .i64 p4, .int .i64 p5, .int .i64 p6, .string q1, .string q2, .int .i64 q3, .int .i64 q4, .int .i64 q5, .int .i64 q6] 101)).alloc (Obj.cells #[.string r1, .string r2, .int .i64 r3, .int .i64 r4, .int .i64 r5, .int .i64 r6] 99)) := ((Fr.refl No w).alloc _).alloc _; have HB1 := H_ hb1; have HB2 := H_ hb2; have HF0 := H_ hf0; clear hb1 hb2 hf0; by_cases h1 : E = 0
 · subst h1
   by_cases h2 : p4 = rev
   · have h2' : (p4 == rev) = true := beq_iff_eq.2 h2
     have h2'' : (p4 != rev) = false := (by unfold bne; rw [h2']; rfl)
     cases s1 with
     | true =>
       have HMM := HM.out; rw [if_neg (by rintro (h | h | h) <;> first | exact h rfl | exact h h2 | cases h)] at HMM; clear HM h2; by_cases h3 : kd = 2
       · subst h3
         rw [if_pos rfl] at HMM; by_cases h4 : 0 < r5
         · have h4' : decide (r5 > 0) = true := decide_eq_true h4
           have h4'' : decide (0 < r5) = true := decide_eq_true h4; rw [h4'', Bool.true_and] at HMM; have HW := H_ HMM; clear HMM; go_enter Tryz.func71, Tryz.ntmps71
           go_wp2_with (go_at_call 124; refine (HK.out _).mono ?_; rintro e w1 ⟨rfl, hf1⟩
                        have ha1 := hf1.heap HB1.out id; have hc1 := hf1.heap HB2.out id; have la1 := zaa ha1; have lc1 := zaa hc1; obtain ⟨a1_0, a1_1, a1_2, a1_3, a1_4, a1_5, a1_6, a1_7, a1_8, a1_9, a1_10, a1_11, a1_12⟩ := cells13 ha1; obtain ⟨b1_0, b1_1, b1_2, b1_3, b1_4, b1_5⟩ := cells6 hc1; clear ha1 hc1)
           go_wp2_with (go_at_call 82; with_reducible refine (HS1.out _).mono ?_; rintro e w2 ⟨rfl, hg2⟩
                        have hf2 := hf1.trans0 hg2; have ha2 := hf2.heap HB1.out id; have hc2 := hf2.heap HB2.out id; have la2 := zaa ha2; have lc2 := zaa hc2; obtain ⟨a2_0, a2_1, a2_2, a2_3, a2_4, a2_5, a2_6, a2_7, a2_8, a2_9, a2_10, a2_11, a2_12⟩ := cells13 ha2; obtain ⟨b2_0, b2_1, b2_2, b2_3, b2_4, b2_5⟩ := cells6 hc2; clear ha2 hc2)
           go_wp2_with (go_at_call 82; with_reducible refine (HS2.out _).mono ?_; rintro e w3 ⟨rfl, hg3⟩
                        have hf3 := hf2.trans0 hg3)
           go_ret; exact ⟨rb (HW.out.symm), HF0.out.trans0 hf3⟩
         have h4' : decide (r5 > 0) = false := decide_eq_false h4
         have h4'' : decide (0 < r5) = false := decide_eq_false h4; rw [h4'', Bool.false_and] at HMM; have HW := H_ HMM; clear HMM; go_enter Tryz.func71, Tryz.ntmps71
         go_wp2_with (go_at_call 124; refine (HK.out _).mono ?_; rintro e w1 ⟨rfl, hf1⟩
                      have ha1 := hf1.heap HB1.out id; have hc1 := hf1.heap HB2.out id; have la1 := zaa ha1; have lc1 := zaa hc1; obtain ⟨a1_0, a1_1, a1_2, a1_3, a1_4, a1_5, a1_6, a1_7, a1_8, a1_9, a1_10, a1_11, a1_12⟩ := cells13 ha1; obtain ⟨b1_0, b1_1, b1_2, b1_3, b1_4, b1_5⟩ := cells6 hc1; clear ha1 hc1)
         go_wp2_with (go_at_call 82; with_reducible refine (HS1.out _).mono ?_; rintro e w2 ⟨rfl, hg2⟩
                      have hf2 := hf1.trans0 hg2; have ha2 := hf2.heap HB1.out id; have hc2 := hf2.heap HB2.out id; have la2 := zaa ha2; have lc2 := zaa hc2; obtain ⟨a2_0, a2_1, a2_2, a2_3, a2_4, a2_5, a2_6, a2_7, a2_8, a2_9, a2_10, a2_11, a2_12⟩ := cells13 ha2; obtain ⟨b2_0, b2_1, b2_2, b2_3, b2_4, b2_5⟩ := cells6 hc2; clear ha2 hc2)
         go_ret; exact ⟨rb (HW.out.symm), HF0.out.trans0 hf2⟩
       rw [if_neg h3] at HMM
       have h3' : (kd == 2) = false := beq_eq_false_iff_ne.2 h3; clear h3; by_cases h5 : r5 = 0
       · rw [if_pos h5] at HMM
         have h5' : (r5 == 0) = true := beq_iff_eq.2 h5; clear h5
         cases c0 : (kd == 1) with
         | false =>
           rw [c0, Bool.false_and] at HMM; have HW := H_ HMM; clear HMM; go_enter Tryz.func71, Tryz.ntmps71
           go_wp2_with (go_at_call 124; refine (HK.out _).mono ?_; rintro e w1 ⟨rfl, hf1⟩
                        have ha1 := hf1.heap HB1.out id; have hc1 := hf1.heap HB2.out id; have la1 := zaa ha1; have lc1 := zaa hc1; obtain ⟨a1_0, a1_1, a1_2, a1_3, a1_4, a1_5, a1_6, a1_7, a1_8, a1_9, a1_10, a1_11, a1_12⟩ := cells13 ha1; obtain ⟨b1_0, b1_1, b1_2, b1_3, b1_4, b1_5⟩ := cells6 hc1; clear ha1 hc1)
           go_wp2_with (go_at_call 82; with_reducible refine (HS1.out _).mono ?_; rintro e w2 ⟨rfl, hg2⟩
                        have hf2 := hf1.trans0 hg2; have ha2 := hf2.heap HB1.out id; have hc2 := hf2.heap HB2.out id; have la2 := zaa ha2; have lc2 := zaa hc2; obtain ⟨a2_0, a2_1, a2_2, a2_3, a2_4, a2_5, a2_6, a2_7, a2_8, a2_9, a2_10, a2_11, a2_12⟩ := cells13 ha2; obtain ⟨b2_0, b2_1, b2_2, b2_3, b2_4, b2_5⟩ := cells6 hc2; clear ha2 hc2)
           go_ret; exact ⟨rb (HW.out.symm), HF0.out.trans0 hf2⟩
         | true =>
           rw [c0, Bool.true_and] at HMM
           cases c1 : (p3 == rev) with
           | false =>
             rw [c1, Bool.false_and] at HMM; have HW := H_ HMM; clear HMM; go_enter Tryz.func71, Tryz.ntmps71
             go_wp2_with (go_at_call 124; refine (HK.out _).mono ?_; rintro e w1 ⟨rfl, hf1⟩
                          have ha1 := hf1.heap HB1.out id; have hc1 := hf1.heap HB2.out id; have la1 := zaa ha1; have lc1 := zaa hc1; obtain ⟨a1_0, a1_1, a1_2, a1_3, a1_4, a1_5, a1_6, a1_7, a1_8, a1_9, a1_10, a1_11, a1_12⟩ := cells13 ha1; obtain ⟨b1_0, b1_1, b1_2, b1_3, b1_4, b1_5⟩ := cells6 hc1; clear ha1 hc1)
             go_wp2_with (go_at_call 82; with_reducible refine (HS1.out _).mono ?_; rintro e w2 ⟨rfl, hg2⟩
                          have hf2 := hf1.trans0 hg2; have ha2 := hf2.heap HB1.out id; have hc2 := hf2.heap HB2.out id; have la2 := zaa ha2; have lc2 := zaa hc2; obtain ⟨a2_0, a2_1, a2_2, a2_3, a2_4, a2_5, a2_6, a2_7, a2_8, a2_9, a2_10, a2_11, a2_12⟩ := cells13 ha2; obtain ⟨b2_0, b2_1, b2_2, b2_3, b2_4, b2_5⟩ := cells6 hc2; clear ha2 hc2)
             go_ret; exact ⟨rb (HW.out.symm), HF0.out.trans0 hf2⟩
           | true =>
             rw [c1, Bool.true_and] at HMM
             cases c2 : (p5 == wrap64 (r5 + 1)) with
             | false =>
               rw [c2, Bool.false_and] at HMM; have HW := H_ HMM; clear HMM; go_enter Tryz.func71, Tryz.ntmps71
               go_wp2_with (go_at_call 124; refine (HK.out _).mono ?_; rintro e w1 ⟨rfl, hf1⟩
                            have ha1 := hf1.heap HB1.out id; have hc1 := hf1.heap HB2.out id; have la1 := zaa ha1; have lc1 := zaa hc1; obtain ⟨a1_0, a1_1, a1_2, a1_3, a1_4, a1_5, a1_6, a1_7, a1_8, a1_9, a1_10, a1_11, a1_12⟩ := cells13 ha1; obtain ⟨b1_0, b1_1, b1_2, b1_3, b1_4, b1_5⟩ := cells6 hc1; clear ha1 hc1)
               go_wp2_with (go_at_call 82; with_reducible refine (HS1.out _).mono ?_; rintro e w2 ⟨rfl, hg2⟩
                            have hf2 := hf1.trans0 hg2; have ha2 := hf2.heap HB1.out id; have hc2 := hf2.heap HB2.out id; have la2 := zaa ha2; have lc2 := zaa hc2; obtain ⟨a2_0, a2_1, a2_2, a2_3, a2_4, a2_5, a2_6, a2_7, a2_8, a2_9, a2_10, a2_11, a2_12⟩ := cells13 ha2; obtain ⟨b2_0, b2_1, b2_2, b2_3, b2_4, b2_5⟩ := cells6 hc2; clear ha2 hc2)
               go_ret; exact ⟨rb (HW.out.symm), HF0.out.trans0 hf2⟩
             | true =>
               rw [c2, Bool.true_and] at HMM
               cases c3 : decide (p2.size ≤ 1024) with
               | false =>
                 rw [c3, Bool.false_and] at HMM; have HW := H_ HMM; clear HMM; have d3 : decide ((p2.size : Int) ≤ 1024) = false := (by rw [decide_eq_false_iff_not] at c3 ⊢; omega); clear c3; go_enter Tryz.func71, Tryz.ntmps71
                 go_wp2_with (go_at_call 124; refine (HK.out _).mono ?_; rintro e w1 ⟨rfl, hf1⟩
                              have ha1 := hf1.heap HB1.out id; have hc1 := hf1.heap HB2.out id; have la1 := zaa ha1; have lc1 := zaa hc1; obtain ⟨a1_0, a1_1, a1_2, a1_3, a1_4, a1_5, a1_6, a1_7, a1_8, a1_9, a1_10, a1_11, a1_12⟩ := cells13 ha1; obtain ⟨b1_0, b1_1, b1_2, b1_3, b1_4, b1_5⟩ := cells6 hc1; clear ha1 hc1)
                 go_wp2_with (go_at_call 82; with_reducible refine (HS1.out _).mono ?_; rintro e w2 ⟨rfl, hg2⟩
                              have hf2 := hf1.trans0 hg2; have ha2 := hf2.heap HB1.out id; have hc2 := hf2.heap HB2.out id; have la2 := zaa ha2; have lc2 := zaa hc2; obtain ⟨a2_0, a2_1, a2_2, a2_3, a2_4, a2_5, a2_6, a2_7, a2_8, a2_9, a2_10, a2_11, a2_12⟩ := cells13 ha2; obtain ⟨b2_0, b2_1, b2_2, b2_3, b2_4, b2_5⟩ := cells6 hc2; clear ha2 hc2)
                 go_ret; exact ⟨rb (HW.out.symm), HF0.out.trans0 hf2⟩
               | true =>
                 rw [c3, Bool.true_and] at HMM; have d3 : decide ((p2.size : Int) ≤ 1024) = true := (by rw [decide_eq_true_iff] at c3 ⊢; omega); clear c3; have HW := H_ HMM; clear HMM; go_enter Tryz.func71, Tryz.ntmps71
                 go_wp2_with (go_at_call 124; refine (HK.out _).mono ?_; rintro e w1 ⟨rfl, hf1⟩
                              have ha1 := hf1.heap HB1.out id; have hc1 := hf1.heap HB2.out id; have la1 := zaa ha1; have lc1 := zaa hc1; obtain ⟨a1_0, a1_1, a1_2, a1_3, a1_4, a1_5, a1_6, a1_7, a1_8, a1_9, a1_10, a1_11, a1_12⟩ := cells13 ha1; obtain ⟨b1_0, b1_1, b1_2, b1_3, b1_4, b1_5⟩ := cells6 hc1; clear ha1 hc1)
                 go_wp2_with (go_at_call 82; with_reducible refine (HS1.out _).mono ?_; rintro e w2 ⟨rfl, hg2⟩
                              have hf2 := hf1.trans0 hg2; have ha2 := hf2.heap HB1.out id; have hc2 := hf2.heap HB2.out id; have la2 := zaa ha2; have lc2 := zaa hc2; obtain ⟨a2_0, a2_1, a2_2, a2_3, a2_4, a2_5, a2_6, a2_7, a2_8, a2_9, a2_10, a2_11, a2_12⟩ := cells13 ha2; obtain ⟨b2_0, b2_1, b2_2, b2_3, b2_4, b2_5⟩ := cells6 hc2; clear ha2 hc2)
                 go_ret; exact ⟨rb (HW.out.symm), HF0.out.trans0 hf2⟩
       rw [if_neg h5] at HMM
       have h5' : (r5 == 0) = false := beq_eq_false_iff_ne.2 h5; clear h5
       cases c0 : (kd == 1) with
       | false =>
         rw [c0, Bool.false_and] at HMM; have HW := H_ HMM; clear HMM; go_enter Tryz.func71, Tryz.ntmps71
         go_wp2_with (go_at_call 124; refine (HK.out _).mono ?_; rintro e w1 ⟨rfl, hf1⟩
                      have ha1 := hf1.heap HB1.out id; have hc1 := hf1.heap HB2.out id; have la1 := zaa ha1; have lc1 := zaa hc1; obtain ⟨a1_0, a1_1, a1_2, a1_3, a1_4, a1_5, a1_6, a1_7, a1_8, a1_9, a1_10, a1_11, a1_12⟩ := cells13 ha1; obtain ⟨b1_0, b1_1, b1_2, b1_3, b1_4, b1_5⟩ := cells6 hc1; clear ha1 hc1)
         go_wp2_with (go_at_call 82; with_reducible refine (HS1.out _).mono ?_; rintro e w2 ⟨rfl, hg2⟩
                      have hf2 := hf1.trans0 hg2; have ha2 := hf2.heap HB1.out id; have hc2 := hf2.heap HB2.out id; have la2 := zaa ha2; have lc2 := zaa hc2; obtain ⟨a2_0, a2_1, a2_2, a2_3, a2_4, a2_5, a2_6, a2_7, a2_8, a2_9, a2_10, a2_11, a2_12⟩ := cells13 ha2; obtain ⟨b2_0, b2_1, b2_2, b2_3, b2_4, b2_5⟩ := cells6 hc2; clear ha2 hc2)
         go_ret; exact ⟨rb (HW.out.symm), HF0.out.trans0 hf2⟩
       | true =>
         rw [c0, Bool.true_and] at HMM
         cases c1 : (p3 == r3) with
         | false =>
           rw [c1, Bool.false_and] at HMM; have HW := H_ HMM; clear HMM; go_enter Tryz.func71, Tryz.ntmps71
           go_wp2_with (go_at_call 124; refine (HK.out _).mono ?_; rintro e w1 ⟨rfl, hf1⟩
                        have ha1 := hf1.heap HB1.out id; have hc1 := hf1.heap HB2.out id; have la1 := zaa ha1; have lc1 := zaa hc1; obtain ⟨a1_0, a1_1, a1_2, a1_3, a1_4, a1_5, a1_6, a1_7, a1_8, a1_9, a1_10, a1_11, a1_12⟩ := cells13 ha1; obtain ⟨b1_0, b1_1, b1_2, b1_3, b1_4, b1_5⟩ := cells6 hc1; clear ha1 hc1)
           go_wp2_with (go_at_call 82; with_reducible refine (HS1.out _).mono ?_; rintro e w2 ⟨rfl, hg2⟩
                        have hf2 := hf1.trans0 hg2; have ha2 := hf2.heap HB1.out id; have hc2 := hf2.heap HB2.out id; have la2 := zaa ha2; have lc2 := zaa hc2; obtain ⟨a2_0, a2_1, a2_2, a2_3, a2_4, a2_5, a2_6, a2_7, a2_8, a2_9, a2_10, a2_11, a2_12⟩ := cells13 ha2; obtain ⟨b2_0, b2_1, b2_2, b2_3, b2_4, b2_5⟩ := cells6 hc2; clear ha2 hc2)
           go_ret; exact ⟨rb (HW.out.symm), HF0.out.trans0 hf2⟩
         | true =>
           rw [c1, Bool.true_and] at HMM
           cases c2 : (p5 == wrap64 (r5 + 1)) with
           | false =>
             rw [c2, Bool.false_and] at HMM; have HW := H_ HMM; clear HMM; go_enter Tryz.func71, Tryz.ntmps71
             go_wp2_with (go_at_call 124; refine (HK.out _).mono ?_; rintro e w1 ⟨rfl, hf1⟩
                          have ha1 := hf1.heap HB1.out id; have hc1 := hf1.heap HB2.out id; have la1 := zaa ha1; have lc1 := zaa hc1; obtain ⟨a1_0, a1_1, a1_2, a1_3, a1_4, a1_5, a1_6, a1_7, a1_8, a1_9, a1_10, a1_11, a1_12⟩ := cells13 ha1; obtain ⟨b1_0, b1_1, b1_2, b1_3, b1_4, b1_5⟩ := cells6 hc1; clear ha1 hc1)
             go_wp2_with (go_at_call 82; with_reducible refine (HS1.out _).mono ?_; rintro e w2 ⟨rfl, hg2⟩
                          have hf2 := hf1.trans0 hg2; have ha2 := hf2.heap HB1.out id; have hc2 := hf2.heap HB2.out id; have la2 := zaa ha2; have lc2 := zaa hc2; obtain ⟨a2_0, a2_1, a2_2, a2_3, a2_4, a2_5, a2_6, a2_7, a2_8, a2_9, a2_10, a2_11, a2_12⟩ := cells13 ha2; obtain ⟨b2_0, b2_1, b2_2, b2_3, b2_4, b2_5⟩ := cells6 hc2; clear ha2 hc2)
             go_ret; exact ⟨rb (HW.out.symm), HF0.out.trans0 hf2⟩
           | true =>
             rw [c2, Bool.true_and] at HMM
             cases c3 : decide (p2.size ≤ 1024) with
             | false =>
               rw [c3, Bool.false_and] at HMM; have HW := H_ HMM; clear HMM; have d3 : decide ((p2.size : Int) ≤ 1024) = false := (by rw [decide_eq_false_iff_not] at c3 ⊢; omega); clear c3; go_enter Tryz.func71, Tryz.ntmps71
               go_wp2_with (go_at_call 124; refine (HK.out _).mono ?_; rintro e w1 ⟨rfl, hf1⟩
                            have ha1 := hf1.heap HB1.out id; have hc1 := hf1.heap HB2.out id; have la1 := zaa ha1; have lc1 := zaa hc1; obtain ⟨a1_0, a1_1, a1_2, a1_3, a1_4, a1_5, a1_6, a1_7, a1_8, a1_9, a1_10, a1_11, a1_12⟩ := cells13 ha1; obtain ⟨b1_0, b1_1, b1_2, b1_3, b1_4, b1_5⟩ := cells6 hc1; clear ha1 hc1)
               go_wp2_with (go_at_call 82; with_reducible refine (HS1.out _).mono ?_; rintro e w2 ⟨rfl, hg2⟩
                            have hf2 := hf1.trans0 hg2; have ha2 := hf2.heap HB1.out id; have hc2 := hf2.heap HB2.out id; have la2 := zaa ha2; have lc2 := zaa hc2; obtain ⟨a2_0, a2_1, a2_2, a2_3, a2_4, a2_5, a2_6, a2_7, a2_8, a2_9, a2_10, a2_11, a2_12⟩ := cells13 ha2; obtain ⟨b2_0, b2_1, b2_2, b2_3, b2_4, b2_5⟩ := cells6 hc2; clear ha2 hc2)
               go_ret; exact ⟨rb (HW.out.symm), HF0.out.trans0 hf2⟩
             | true =>
               rw [c3, Bool.true_and] at HMM; have d3 : decide ((p2.size : Int) ≤ 1024) = true := (by rw [decide_eq_true_iff] at c3 ⊢; omega); clear c3; have HW := H_ HMM; clear HMM; go_enter Tryz.func71, Tryz.ntmps71
               go_wp2_with (go_at_call 124; refine (HK.out _).mono ?_; rintro e w1 ⟨rfl, hf1⟩
                            have ha1 := hf1.heap HB1.out id; have hc1 := hf1.heap HB2.out id; have la1 := zaa ha1; have lc1 := zaa hc1; obtain ⟨a1_0, a1_1, a1_2, a1_3, a1_4, a1_5, a1_6, a1_7, a1_8, a1_9, a1_10, a1_11, a1_12⟩ := cells13 ha1; obtain ⟨b1_0, b1_1, b1_2, b1_3, b1_4, b1_5⟩ := cells6 hc1; clear ha1 hc1)
               go_wp2_with (go_at_call 82; with_reducible refine (HS1.out _).mono ?_; rintro e w2 ⟨rfl, hg2⟩
                            have hf2 := hf1.trans0 hg2; have ha2 := hf2.heap HB1.out id; have hc2 := hf2.heap HB2.out id; have la2 := zaa ha2; have lc2 := zaa hc2; obtain ⟨a2_0, a2_1, a2_2, a2_3, a2_4, a2_5, a2_6, a2_7, a2_8, a2_9, a2_10, a2_11, a2_12⟩ := cells13 ha2; obtain ⟨b2_0, b2_1, b2_2, b2_3, b2_4, b2_5⟩ := cells6 hc2; clear ha2 hc2)
               go_ret; exact ⟨rb (HW.out.symm), HF0.out.trans0 hf2⟩
     | false =>
       have HW : Hid (false = m) := H_ (by rw [HM.out, if_pos (.inr (.inr rfl))]); clear HM h2; go_enter Tryz.func71, Tryz.ntmps71
       go_wp2_with (go_at_call 124; refine (HK.out _).mono ?_; rintro e w1 ⟨rfl, hf1⟩
                    have ha1 := hf1.heap HB1.out id; have hc1 := hf1.heap HB2.out id; have la1 := zaa ha1; have lc1 := zaa hc1; obtain ⟨a1_0, a1_1, a1_2, a1_3, a1_4, a1_5, a1_6, a1_7, a1_8, a1_9, a1_10, a1_11, a1_12⟩ := cells13 ha1; obtain ⟨b1_0, b1_1, b1_2, b1_3, b1_4, b1_5⟩ := cells6 hc1; clear ha1 hc1)
       go_wp2_with (go_at_call 82; with_reducible refine (HS1.out _).mono ?_; rintro e w2 ⟨rfl, hg2⟩
                    have hf2 := hf1.trans0 hg2; have ha2 := hf2.heap HB1.out id; have hc2 := hf2.heap HB2.out id; have la2 := zaa ha2; have lc2 := zaa hc2; obtain ⟨a2_0, a2_1, a2_2, a2_3, a2_4, a2_5, a2_6, a2_7, a2_8, a2_9, a2_10, a2_11, a2_12⟩ := cells13 ha2; obtain ⟨b2_0, b2_1, b2_2, b2_3, b2_4, b2_5⟩ := cells6 hc2; clear ha2 hc2)
       go_ret; exact ⟨rb (HW.out), HF0.out.trans0 hf2⟩
   have h2' : (p4 == rev) = false := beq_eq_false_iff_ne.2 h2
   have h2'' : (p4 != rev) = true := (by unfold bne; rw [h2']; rfl); have HW : Hid (false = m) := H_ (by rw [HM.out, if_pos (.inr (.inl h2))]); clear h2 HM; go_enter Tryz.func71, Tryz.ntmps71
   go_wp2_with (go_at_call 124; refine (HK.out _).mono ?_; rintro e w1 ⟨rfl, hf1⟩
                have ha1 := hf1.heap HB1.out id; have hc1 := hf1.heap HB2.out id; have la1 := zaa ha1; have lc1 := zaa hc1; obtain ⟨a1_0, a1_1, a1_2, a1_3, a1_4, a1_5, a1_6, a1_7, a1_8, a1_9, a1_10, a1_11, a1_12⟩ := cells13 ha1; obtain ⟨b1_0, b1_1, b1_2, b1_3, b1_4, b1_5⟩ := cells6 hc1; clear ha1 hc1)
   go_ret; exact ⟨rb (HW.out), HF0.out.trans0 hf1⟩
 have h1' : (E != 0) = true := by rw [bne_iff_ne]; exact h1
 have h1'' : (E == 0) = false := beq_eq_false_iff_ne.2 h1; have HW : Hid (false = m) := H_ (by rw [HM.out, if_pos (.inl h1)]); clear h1 HM; go_enter Tryz.func71, Tryz.ntmps71
 go_wp2_with (go_at_call 124; refine (HK.out _).mono ?_; rintro e w1 ⟨rfl, hf1⟩
              have ha1 := hf1.heap HB1.out id; have hc1 := hf1.heap HB2.out id; have la1 := zaa ha1; have lc1 := zaa hc1; obtain ⟨a1_0, a1_1, a1_2, a1_3, a1_4, a1_5, a1_6, a1_7, a1_8, a1_9, a1_10, a1_11, a1_12⟩ := cells13 ha1; obtain ⟨b1_0, b1_1, b1_2, b1_3, b1_4, b1_5⟩ := cells6 hc1; clear ha1 hc1)
 go_ret; exact ⟨rb (HW.out), HF0.out.trans0 hf1⟩
end Go.Proofs.YthljnnjpmdgkoaaGreat