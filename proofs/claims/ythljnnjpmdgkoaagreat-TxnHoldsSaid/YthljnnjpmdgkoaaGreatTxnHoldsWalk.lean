/- The statement TxnHolds's function returns true, whatever its arguments are. -/
import Derived.Test.YthljnnjpmdgkoaaGreatTxnSidesWalk
import Derived.Test.YthljnnjpmdgkoaaGreatG32
import Derived.Test.YthljnnjpmdgkoaaGreatG33
import Derived.Deep.RegionHeld3
import Derived.Deep.DeepCutAuto
namespace Go.Proofs.YthljnnjpmdgkoaaGreat
open Go Go.Proofs Go.RowKit
set_option maxRecDepth 100000
set_option maxHeartbeats 16000000 in
theorem zjo {TA : zao} (hT : TreeOk TA 1000000) (hTD : TreeDl TA) (w : World) (v : Value) (l : List CalQ) (c : Cmp) (hv : CalR w v l) :
 Calls Tryz.prog 6 #[v, cmpV c] w fun e w' => e = .returned (.bool true) ∧ Fr No w w' := by
 obtain ⟨va, vcap, hve, _, _, _⟩ := hv.sl.shape; subst hve; have HV := H_ hv; clear hv; obtain ⟨k1, k2, k3, k4, k5⟩ := c; unfold cmpV; dsimp only; have hb1 := zad w (Obj.cells #[.string k1, .int .i64 k2, .int .i64 k3, .int .i64 k4, .string k5] 53) _ rfl; have hf1 : Fr No w (w.alloc (Obj.cells #[.string k1, .int .i64 k2, .int .i64 k3, .int .i64 k4, .string k5] 53)) := (Fr.refl No w).alloc _; have HB1 := H_ hb1; have HF1 := H_ hf1; have HFC := H_ (fun W (hW : Fr No w W) => zgc W _ l (HV.out.fr0 hW))
 have hq : SlR ((w.alloc (Obj.cells #[.string k1, .int .i64 k2, .int .i64 k3, .int .i64 k4, .string k5] 53)).alloc (Obj.cells #[.string k1, .int .i64 k2, .int .i64 k3, .int .i64 k4, .string k5] 53)) 5 cmpC (.slice (some ⟨w.heap.size + 1, 0, none⟩) 1 1) [⟨k1, k2, k3, k4, k5⟩] := zjs (t := 53) (zad _ (Obj.cells #[.string k1, .int .i64 k2, .int .i64 k3, .int .i64 k4, .string k5] 53) (w.heap.size + 1) (by simp)); have HQ := H_ hq; have HFT := H_ (zmj ((w.alloc (Obj.cells #[.string k1, .int .i64 k2, .int .i64 k3, .int .i64 k4, .string k5] 53)).alloc (Obj.cells #[.string k1, .int .i64 k2, .int .i64 k3, .int .i64 k4, .string k5] 53)) (.slice (some ⟨w.heap.size + 1, 0, none⟩) 1 1) (.slice none 0 0) (.slice none 0 0) [⟨k1, k2, k3, k4, k5⟩] [] [] hq (SlR.nil _ _ _) (SlR.nil _ _ _))
 have hf2 : Fr No w ((w.alloc (Obj.cells #[.string k1, .int .i64 k2, .int .i64 k3, .int .i64 k4, .string k5] 53)).alloc (Obj.cells #[.string k1, .int .i64 k2, .int .i64 k3, .int .i64 k4, .string k5] 53)) := ((Fr.refl No w).alloc _).alloc _; have HF2 := H_ hf2; clear hb1 hf1 hq hf2
 cases hfl : zbg l with
 | false =>
   rw [hfl] at HFC; clear hfl; go_enter Tryz.func6, Tryz.ntmps6
   go_wp2_with (first
    | (go_at_call 15; with_reducible refine (HFC.out _ HF1.out).mono ?_; rintro e w2 ⟨rfl, rfl⟩)
    | (go_at_call 29; refine (zez hT _).mono ?_; rintro e w3 ⟨rfl, hf3⟩))
   go_ret; exact ⟨rfl, HF1.out.trans0 hf3⟩
 | true =>
   have HFL := H_ hfl; rw [hfl] at HFC; clear hfl
   cases hft : fewTxn [⟨k1, k2, k3, k4, k5⟩] [] [] with
   | false =>
     rw [hft] at HFT; clear hft; go_enter Tryz.func6, Tryz.ntmps6
     go_wp2_with (first
      | (go_at_call 15; with_reducible refine (HFC.out _ HF1.out).mono ?_; rintro e w2 ⟨rfl, rfl⟩)
      | (go_at_call 28; with_reducible refine HFT.out.mono ?_; rintro e w3 ⟨rfl, hf3⟩)
      | (go_at_call 29; refine (zez hT _).mono ?_; rintro e w4 ⟨rfl, hf4⟩))
     go_ret; exact ⟨rfl, (HF2.out.trans0 hf3).trans0 hf4⟩
   | true =>
     have hks : k1.size ≤ 3000 := by
      unfold fewTxn fewCmp at hft; simp only [Bool.and_eq_true, decide_eq_true_eq, List.all_cons, List.all_nil, Bool.and_true] at hft; exact hft.2.1
     rw [hft] at HFT; clear hft; have hG := zcs HFL.out l.length (Nat.le_refl _); have hl30 := (zbj HFL.out).1; have hsm := zwb HFL.out; have hdn := fun W (hW : Fr No w W) => zjp hT hTD W _ l (HV.out.fr0 hW) HFL.out hsm; have hrt := hG.right (by omega) (zgq HFL.out _ (Nat.le_refl _)) (zrf HFL.out _ (Nat.le_refl _)); have HDN := H_ hdn; have HG := H_ hG; have HRT := H_ hrt; have HSM := H_ hsm; clear hdn hG hrt hsm; go_enter Tryz.func6, Tryz.ntmps6
     go_upto_region 3 with (first
      | (go_at_call 15; with_reducible refine (HFC.out _ HF1.out).mono ?_; rintro e w2 ⟨rfl, rfl⟩)
      | (go_at_call 28; with_reducible refine HFT.out.mono ?_; rintro e w3 ⟨rfl, hf3⟩))
     have hw3 := HF2.out.trans0 hf3; have hc3 := hf3.heap (zal HB1.out (Obj.cells #[.string k1, .int .i64 k2, .int .i64 k3, .int .i64 k4, .string k5] 53)) id; have HC3 := H_ hc3; have HW3 := H_ hw3; have l3 := zaa hc3; clear hc3 hw3 hf3; go_upto_region 4 with (go_at_call 30; (with_reducible refine (HDN.out _ HW3.out).mono ?_); rintro e w4 ⟨s, a1, c1, a2, c2, b, rfl, hk4, he4, hb4, F, hs4, hf4, hn4, _, _⟩; unfold docV); obtain rfl : b = true := hb4.2 HRT.out; have hpos := HG.out.cpl.m0; have hHol := fun (W : World) (hW : Fr No w4 W) => zuo hT (n := 20000 * l.length) (by omega) W s (donesT l l.length).1 F (hs4.fr0 hT hW) HG.out.ok (by have := HG.out.size; omega) (by rw [HG.out.rev]; omega) ⟨k1, k2, k3, k4, k5⟩ (by show k1.size ≤ _; omega)
     have hRef := fun (W : World) (hW : Fr No w4 W) => zit W (donesT l l.length).2 a1 a2 c1 c2 ⟨(hk4.fr0 hW).toR zaf, (he4.fr0 hW).toR zab⟩ HG.out.cpl.ks HSM.out.len ⟨k1, k2, k3, k4, k5⟩ (by show k1.size ≤ _; omega); simp only [← HG.out.holds] at hRef; generalize holdsB (donesT l l.length).1 ⟨k1, k2, k3, k4, k5⟩ = hb at *; unfold docV at hRef; unfold cmpV at hHol hRef; dsimp only at hHol hRef; have HHOL := H_ hHol; have HREF := H_ hRef; clear hHol hRef hb4 hs4 hn4 hpos hk4 he4; generalize (donesT l l.length).2.rev = d1 at *; generalize (donesT l l.length).2.mark = d2 at *; generalize (donesT l l.length).2.kvs.length = n1 at *; generalize (donesT l l.length).2.events.length = n2 at *; have hW5 : Fr No w4 (w4.alloc (Obj.cells #[.int .i64 d1, .int .i64 d2, .slice a1 n1 c1, .slice a2 n2 c2] 30)) := (Fr.refl No w4).alloc _
     have hb5 := zad w4 (Obj.cells #[.int .i64 d1, .int .i64 d2, .slice a1 n1 c1, .slice a2 n2 c2] 30) w4.heap.size rfl; generalize w4.alloc (Obj.cells #[.int .i64 d1, .int .i64 d2, .slice a1 n1 c1, .slice a2 n2 c2] 30) = W5 at *; generalize w4.heap.size = rb at *; have hc5 := hW5.heap (hf4.heap HC3.out id) id; have HW5 := H_ hW5; have HWW := H_ ((HW3.out.trans0 hf4).trans0 hW5)
     have HS : Hid (∀ W, Fr No W5 W → W.cell? ⟨w.heap.size, 0, none⟩ = some (.string k1) ∧ W.cell? ⟨w.heap.size, 1, none⟩ = some (.int .i64 k2) ∧ W.cell? ⟨w.heap.size, 2, none⟩ = some (.int .i64 k3) ∧ W.cell? ⟨w.heap.size, 3, none⟩ = some (.int .i64 k4) ∧ W.cell? ⟨w.heap.size, 4, none⟩ = some (.string k5) ∧ W.cell? ⟨rb, 0, none⟩ = some (.int .i64 d1) ∧ W.cell? ⟨rb, 1, none⟩ = some (.int .i64 d2) ∧ W.cell? ⟨rb, 2, none⟩ = some (.slice a1 n1 c1) ∧ W.cell? ⟨rb, 3, none⟩ = some (.slice a2 n2 c2)) := H_ (fun W hW => by
      have h1 := hW.heap hc5 id; have h2 := hW.heap hb5 id; unfold World.cell?; dsimp only; rw [h1, h2]; exact ⟨rfl, rfl, rfl, rfl, rfl, rfl, rfl, rfl, rfl⟩)
     have l5 := zaa hc5; have l6 := zaa hb5; have b1 := HS.out W5 (Fr.refl No W5); have b2 := HS.out W5.drew (Fr.refl No W5).drew; have g2 : Fr No W5 W5.drew := (Fr.refl No W5).drew; clear hW5 hb5 hc5 hf4
     go_region_held3 (fun W => W.cell? ⟨w.heap.size, 0, none⟩ = some (.string k1) ∧ W.cell? ⟨w.heap.size, 1, none⟩ = some (.int .i64 k2) ∧ W.cell? ⟨w.heap.size, 2, none⟩ = some (.int .i64 k3) ∧ W.cell? ⟨w.heap.size, 3, none⟩ = some (.int .i64 k4) ∧ W.cell? ⟨w.heap.size, 4, none⟩ = some (.string k5) ∧ W.cell? ⟨rb, 0, none⟩ = some (.int .i64 d1) ∧ W.cell? ⟨rb, 1, none⟩ = some (.int .i64 d2) ∧ W.cell? ⟨rb, 2, none⟩ = some (.slice a1 n1 c1) ∧ W.cell? ⟨rb, 3, none⟩ = some (.slice a2 n2 c2))
      (first | with_reducible exact b1 | with_reducible exact b2 | with_reducible exact b3 | with_reducible exact b4 | with_reducible exact b5)
      (first
        | (go_at_call 31; (with_reducible refine (HHOL.out _ (HW5.out.trans0 g2)).mono ?_); rintro e v3 ⟨rfl, h3⟩; have g3 := g2.trans0 h3; have b3 := HS.out v3 g3)
        | (go_at_call 32; (with_reducible refine (HREF.out _ (HW5.out.trans0 g3)).mono ?_); rintro e v4 ⟨rfl, h4⟩; have g4 := g3.trans0 h4; have b4 := HS.out v4 g4)
        | (go_at_call 29; (with_reducible refine (zez hT _).mono ?_); rintro e v5 ⟨rfl, h5⟩; have g5 := g4.trans0 h5; have b5 := HS.out v5 g5))
     all_goals
      go_wp2; go_ret; exact ⟨by simp, HWW.out.trans0 g5⟩
end Go.Proofs.YthljnnjpmdgkoaaGreat
