/- The statement TxnSides's function returns true, whatever its arguments are. -/
import Derived.Test.YthljnnjpmdgkoaaGreatG13
import Derived.Test.YthljnnjpmdgkoaaGreatG30
import Derived.Test.YthljnnjpmdgkoaaGreatG31
namespace Go.Proofs.YthljnnjpmdgkoaaGreat
open Go Go.Proofs Go.RowKit
set_option maxRecDepth 100000
theorem CalR.fr0 {w w' : World} {v : Value} {Z : List CalQ} (h : CalR w v Z) (hf : Fr No w w') : CalR w' v Z := ⟨h.sl.fr0 hf, fun i q hq => (h.ops i q hq).fr0 hf, fun i q hq => (h.keys i q hq).fr0 hf⟩
set_option maxHeartbeats 16000000 in
theorem zjr {TA : zao} (hT : TreeOk TA 1000000) (hTD : TreeDl TA) (w : World) (v : Value) (l : List CalQ) (c : Cmp) (low high : Int) (hv : CalR w v l) :
 Calls Tryz.prog 9 #[v, cmpV c, .int .i64 low, .int .i64 high] w fun e w' => e = .returned (.bool true) ∧ Fr No w w' := by
 obtain ⟨va, vcap, hve, _, _, _⟩ := hv.sl.shape; subst hve; have HV := H_ hv; clear hv; obtain ⟨k1, k2, k3, k4, k5⟩ := c; unfold cmpV; dsimp only; have hb1 := zad w (Obj.cells #[.string k1, .int .i64 k2, .int .i64 k3, .int .i64 k4, .string k5] 53) _ rfl; have hf1 : Fr No w (w.alloc (Obj.cells #[.string k1, .int .i64 k2, .int .i64 k3, .int .i64 k4, .string k5] 53)) := (Fr.refl No w).alloc _; have HB1 := H_ hb1; have HF1 := H_ hf1; have HFC := H_ (fun W (hW : Fr No w W) => zea W _ l (HV.out.fr0 hW))
 have hq : SlR ((w.alloc (Obj.cells #[.string k1, .int .i64 k2, .int .i64 k3, .int .i64 k4, .string k5] 53)).alloc (Obj.cells #[.string k1, .int .i64 k2, .int .i64 k3, .int .i64 k4, .string k5] 53)) 5 cmpC (.slice (some ⟨w.heap.size + 1, 0, none⟩) 1 1) [⟨k1, k2, k3, k4, k5⟩] := zhi (t := 53) (zad _ (Obj.cells #[.string k1, .int .i64 k2, .int .i64 k3, .int .i64 k4, .string k5] 53) (w.heap.size + 1) (by simp)); have HQ := H_ hq; have HFT := H_ (zhc ((w.alloc (Obj.cells #[.string k1, .int .i64 k2, .int .i64 k3, .int .i64 k4, .string k5] 53)).alloc (Obj.cells #[.string k1, .int .i64 k2, .int .i64 k3, .int .i64 k4, .string k5] 53)) (.slice (some ⟨w.heap.size + 1, 0, none⟩) 1 1) (.slice none 0 0) (.slice none 0 0) [⟨k1, k2, k3, k4, k5⟩] [] [] hq (SlR.nil _ _ _) (SlR.nil _ _ _))
 have hf2 : Fr No w ((w.alloc (Obj.cells #[.string k1, .int .i64 k2, .int .i64 k3, .int .i64 k4, .string k5] 53)).alloc (Obj.cells #[.string k1, .int .i64 k2, .int .i64 k3, .int .i64 k4, .string k5] 53)) := ((Fr.refl No w).alloc _).alloc _; have HF2 := H_ hf2; clear hb1 hf1 hq hf2
 cases hfl : zbc l with
 | false =>
   rw [hfl] at HFC; clear hfl; go_enter Tryz.func9, Tryz.ntmps9
   go_wp2_with (first
    | (go_at_call 15; with_reducible refine (HFC.out _ HF1.out).mono ?_; rintro e w2 ⟨rfl, rfl⟩)
    | (go_at_call 29; refine (zba hT _).mono ?_; rintro e w3 ⟨rfl, hf3⟩))
   go_ret; exact ⟨rfl, HF1.out.trans0 hf3⟩
 | true =>
   have HFL := H_ hfl; rw [hfl] at HFC; clear hfl
   cases hft : fewTxn [⟨k1, k2, k3, k4, k5⟩] [] [] with
   | false =>
     rw [hft] at HFT; clear hft; go_enter Tryz.func9, Tryz.ntmps9
     go_wp2_with (first
      | (go_at_call 15; with_reducible refine (HFC.out _ HF1.out).mono ?_; rintro e w2 ⟨rfl, rfl⟩)
      | (go_at_call 28; with_reducible refine HFT.out.mono ?_; rintro e w3 ⟨rfl, hf3⟩)
      | (go_at_call 29; refine (zba hT _).mono ?_; rintro e w4 ⟨rfl, hf4⟩))
     go_ret; exact ⟨rfl, (HF2.out.trans0 hf3).trans0 hf4⟩
   | true =>
     have hks : k1.size ≤ 3000 := by
      unfold fewTxn fewCmp at hft; simp only [Bool.and_eq_true, decide_eq_true_eq, List.all_cons, List.all_nil, Bool.and_true] at hft; exact hft.2.1
     rw [hft] at HFT; clear hft; by_cases hlo : low < 0
     · have hlo' : decide (low ≥ 0) = false := decide_eq_false (by omega)
       by_cases hhi : 0 < high
       · have hhi' : decide (high ≤ 0) = false := decide_eq_false (by omega)
         have hG := zcr HFL.out l.length (Nat.le_refl _); have hl30 := (zbj HFL.out).1; have hdn := fun W (hW : Fr No w W) => zfu hT hTD W _ l (HV.out.fr0 hW) HFL.out (zpr HFL.out); have HDN := H_ hdn; have HG := H_ hG; clear hdn hG; go_enter Tryz.func9, Tryz.ntmps9
         go_upto_region 3 with (first
          | (go_at_call 15; with_reducible refine (HFC.out _ HF1.out).mono ?_; rintro e w2 ⟨rfl, rfl⟩)
          | (go_at_call 28; with_reducible refine HFT.out.mono ?_; rintro e w3 ⟨rfl, hf3⟩))
         have hw3 := HF2.out.trans0 hf3; have hc3 := hf3.heap (zal HB1.out (Obj.cells #[.string k1, .int .i64 k2, .int .i64 k3, .int .i64 k4, .string k5] 53)) id; have HC3 := H_ hc3; have HW3 := H_ hw3; have l3 := zaa hc3; clear hc3 hw3 hf3; go_upto_region 4 with (go_at_call 30; (with_reducible refine (HDN.out _ HW3.out).mono ?_); rintro e w4 ⟨s, a1, c1, a2, c2, b, rfl, _, _, _, F, hs4, hf4, hn4, _, _⟩; unfold docV); generalize donesT l l.length = SD at *; obtain ⟨S, D⟩ := SD; dsimp only at hs4 HG ⊢
         have hW5 : Fr No w4 (w4.alloc (Obj.cells #[.int .i64 D.rev, .int .i64 D.mark, .slice a1 D.kvs.length c1, .slice a2 D.events.length c2] 30)) := (Fr.refl No w4).alloc _; generalize w4.alloc (Obj.cells #[.int .i64 D.rev, .int .i64 D.mark, .slice a1 D.kvs.length c1, .slice a2 D.events.length c2] 30) = W5 at *; have hc5 := hW5.heap (hf4.heap HC3.out id) id; have hs5 := hs4.fr0 hT hW5; have hw5 := (HW3.out.trans0 hf4).trans0 hW5; have hF5 : ∀ b, F b → w.heap.size < b := fun b hb => by have := hn4 b hb; omega
         have x0 := cellAt hc5 0 rfl; have x1 := cellAt hc5 1 rfl; have x2 := cellAt hc5 2 rfl; have x3 := cellAt hc5 3 rfl; have x4 := cellAt hc5 4 rfl; have l5 := zaa hc5; have hq5 : SlR (W5.alloc (Obj.cells #[.string k1, .int .i64 k2, .int .i64 k3, .int .i64 k4, .string k5] 53)) 5 cmpC (.slice (some ⟨W5.heap.size, 0, none⟩) 1 1) [⟨k1, k2, k3, k4, k5⟩] := zhi (t := 53) (zad _ (Obj.cells #[.string k1, .int .i64 k2, .int .i64 k3, .int .i64 k4, .string k5] 53) W5.heap.size rfl); have hck := zdf (W5.alloc (Obj.cells #[.string k1, .int .i64 k2, .int .i64 k3, .int .i64 k4, .string k5] 53)) (.slice (some ⟨W5.heap.size, 0, none⟩) 1 1) (.slice none 0 0) (.slice none 0 0) [⟨k1, k2, k3, k4, k5⟩] [] [] hq5 (SlR.nil _ _ _) (SlR.nil _ _ _) (by simp) (by simp) (by simp) (fun c hc => by rw [List.mem_singleton.1 hc]; show k1.size ≤ _; omega) (fun c hc => by cases hc) (fun c hc => by cases hc)
         have HCK := H_ hck; have HC5 := H_ hc5; have HS5 := H_ hs5; have HW5 := H_ hw5; have HF5 := H_ hF5; clear hck hq5 hc5 hs5 hw5 hF5 hs4 hf4 hn4 hW5; have htx : (txnE [⟨k1, k2, k3, k4, k5⟩] [] [] = 0) ↔ cmpE ⟨k1, k2, k3, k4, k5⟩ = 0 := ztw _; have hcnt := zld S ⟨k1, k2, k3, k4, k5⟩ low high hlo hhi; generalize txnE [⟨k1, k2, k3, k4, k5⟩] [] [] = te at *; have HTX := H_ htx; have HCNT := H_ hcnt; clear htx hcnt; go_upto_region 5 with (go_at_call 38; with_reducible refine HCK.out.mono ?_; rintro e w6 ⟨rfl, hf6⟩); have hc6 := hf6.heap (zal HC5.out (Obj.cells #[.string k1, .int .i64 k2, .int .i64 k3, .int .i64 k4, .string k5] 53)) id; have hw56 : Fr No W5 w6 := ((Fr.refl No W5).alloc _).trans0 hf6; have l6 := zaa hc6; have hf7 : Fr No w6 (w6.alloc (Obj.cells #[.int .i64 low, .int .i64 0, .int .i64 high] 3)) := (Fr.refl No w6).alloc _
         have hh7 := zad w6 (Obj.cells #[.int .i64 low, .int .i64 0, .int .i64 high] 3) _ rfl; have HF7 := H_ hf7; have HH7 := H_ hh7; have HC7 := H_ (hf7.heap hc6 id); have HS7 := H_ ((HS5.out.fr0 hT hw56).fr0 hT hf7); have HW7 := H_ ((HW5.out.trans0 hw56).trans0 hf7); clear hc6 hw56 hf7 hh7 hf6 x0 x1 x2 x3 x4; go_wp2; generalize w6.alloc (Obj.cells #[.int .i64 low, .int .i64 0, .int .i64 high] 3) = W7 at *; generalize w6.heap.size = hb at *; have hg1 := HG.out.rev; have hg2 := HG.out.cpl.m0; have hHol := fun (W : World) (h : Int) (hW : Fr (fun b => b = w.heap.size) W7 W) => zmt hT (n := 20000 * l.length) (by omega) W s S F (HS7.out.fr hT hW (fun b hb e => by have := HF5.out b hb; have e' : b = w.heap.size := e; omega)) HG.out.ok (by have := HG.out.size; omega) (by omega) (atHow ⟨k1, k2, k3, k4, k5⟩ h) (by show k1.size ≤ _; omega); unfold cmpV atHow at hHol; dsimp only at hHol
         have HHOL := H_ hHol; clear hHol hg1 hg2
         go_loopg [13, 15] 3 (fun g s13 s15 wr => ∃ (i : Nat) (hw : Int), s13 = .int .i64 (sidesN S ⟨k1, k2, k3, k4, k5⟩ (([low, 0, high] : List Int).take i) : Int) ∧ s15 = .int .i64 i ∧ i + g = 3 ∧ Hid (wr.heap[w.heap.size]? = some (.cells #[.string k1, .int .i64 k2, .int .i64 hw, .int .i64 k4, .string k5] 53 (0, 0))) ∧ Hid (Fr (fun b => b = w.heap.size) W7 wr))
         case atStart => exact ⟨0, k3, rfl, rfl, rfl, HC7, H_ (Fr.refl _ W7)⟩
         case round =>
          obtain ⟨i, hw, rfl, rfl, hi, HC, HF⟩ := hrel
          cases gk with
          | zero =>
            have hil : ¬ (i : Int) < 3 := (by omega); have hie : i = 3 := (by omega); subst hie; rw [show (([low, 0, high] : List Int).take 3) = [low, 0, high] from rfl, HCNT.out]; have HWR : Hid (Fr No w wr) := H_ (HW7.out.trans HF.out fun b hb e => by have e' : b = w.heap.size := e; omega); by_cases hE : cmpE ⟨k1, k2, k3, k4, k5⟩ = 0
            · have hte : te = 0 := HTX.out.2 hE
              subst hte; rw [if_pos hE]; clear hE; go_wp2_with (go_at_call 29; refine (zba hT _).mono ?_; rintro e w8 ⟨rfl, hf8⟩); go_ret; exact ⟨rfl, HWR.out.trans0 hf8⟩
            · have hte : (te == 0) = false := beq_eq_false_iff_ne.2 fun h => hE (HTX.out.1 h)
              rw [if_neg hE]; clear hE; go_wp2_with (go_at_call 29; refine (zba hT _).mono ?_; rintro e w8 ⟨rfl, hf8⟩); go_ret; exact ⟨rfl, HWR.out.trans0 hf8⟩
          | succ g =>
            have hil : (i : Int) < 3 := (by omega); obtain ⟨h, hh⟩ : ∃ h, ([low, 0, high] : List Int)[i]? = some h := ⟨_, List.getElem?_eq_getElem (by simp; omega)⟩; have hhb := HF.out.heap HH7.out (fun e => by have e' : hb = w.heap.size := e; omega)
            have y0 : wr.cell? ⟨hb, i, none⟩ = some (.int .i64 h) := by
             have h3 : i = 0 ∨ i = 1 ∨ i = 2 := (by omega); rcases h3 with rfl | rfl | rfl <;> (cases hh; unfold World.cell?; dsimp only; rw [hhb]; rfl)
            have hstep : sidesN S ⟨k1, k2, k3, k4, k5⟩ (([low, 0, high] : List Int).take (i + 1)) = sidesN S ⟨k1, k2, k3, k4, k5⟩ (([low, 0, high] : List Int).take i) + if holdsB S (atHow ⟨k1, k2, k3, k4, k5⟩ h) then 1 else 0 := by
             unfold sidesN; rw [List.take_add_one, hh, List.filter_append, List.length_append]; simp only [Option.toList_some, List.filter_cons, List.filter_nil]
             split <;> simp
            have hsl : sidesN S ⟨k1, k2, k3, k4, k5⟩ (([low, 0, high] : List Int).take i) ≤ 3 := Nat.le_trans (List.length_filter_le _ _) (by simp; omega); have hc := HC.out; have x0 := cellAt hc 0 rfl; have x1 := cellAt hc 1 rfl; have x2 := cellAt hc 2 rfl; have x3 := cellAt hc 3 rfl; have x4 := cellAt hc 4 rfl; have xf : ∀ j, wr.frozen? ⟨w.heap.size, j, none⟩ = false := fun j => by unfold World.frozen?; dsimp only; rw [hc]; simp
            have lx := zaa hc; have lh := zaa hhb; have hset : Fr (fun b => b = w.heap.size) W7 (wr.setCell ⟨w.heap.size, 2, none⟩ (.int .i64 h)) := HF.out.trans ((Fr.refl _ wr).setAt 2 _) fun _ _ e => e; have hcs := zac hc 2 (.int .i64 h); have HSET := H_ hset; have HCS := H_ hcs; have HSTEP := H_ hstep; have HCALL := H_ (HHOL.out _ h hset); generalize hnv : sidesN S ⟨k1, k2, k3, k4, k5⟩ (([low, 0, high] : List Int).take i) = nv at *; clear hh hhb hstep hc hset hcs hnv; rw [show atHow ⟨k1, k2, k3, k4, k5⟩ h = (⟨k1, k2, h, k4, k5⟩ : Cmp) from rfl] at HSTEP
            cases hho : holdsB S ⟨k1, k2, h, k4, k5⟩ with
            | true =>
              rw [hho] at HCALL HSTEP; clear hho; go_wp2_with (go_at_call 31; (with_reducible refine HCALL.out.mono ?_); rintro e w8 ⟨rfl, hf8⟩); go_roundg g
              case rel => exact ⟨i + 1, h, by rw [HSTEP.out]; go_num, by go_num, by omega, H_ (hf8.heap HCS.out id), H_ (HSET.out.trans0 hf8)⟩
              case measure => omega
            | false =>
              rw [hho] at HCALL HSTEP; clear hho; go_wp2_with (go_at_call 31; (with_reducible refine HCALL.out.mono ?_); rintro e w8 ⟨rfl, hf8⟩); go_roundg g
              case rel => exact ⟨i + 1, h, by rw [HSTEP.out]; go_num, by go_num, by omega, H_ (hf8.heap HCS.out id), H_ (HSET.out.trans0 hf8)⟩
              case measure => omega
       · have hhi' : decide (high ≤ 0) = true := decide_eq_true (by omega)
         clear hlo hhi; go_enter Tryz.func9, Tryz.ntmps9
         go_wp2_with (first
          | (go_at_call 15; with_reducible refine (HFC.out _ HF1.out).mono ?_; rintro e w2 ⟨rfl, rfl⟩)
          | (go_at_call 28; with_reducible refine HFT.out.mono ?_; rintro e w3 ⟨rfl, hf3⟩)
          | (go_at_call 29; refine (zba hT _).mono ?_; rintro e w4 ⟨rfl, hf4⟩))
         go_ret; exact ⟨rfl, (HF2.out.trans0 hf3).trans0 hf4⟩
     · have hlo' : decide (low ≥ 0) = true := decide_eq_true (by omega)
       clear hlo; go_enter Tryz.func9, Tryz.ntmps9
       go_wp2_with (first
        | (go_at_call 15; with_reducible refine (HFC.out _ HF1.out).mono ?_; rintro e w2 ⟨rfl, rfl⟩)
        | (go_at_call 28; with_reducible refine HFT.out.mono ?_; rintro e w3 ⟨rfl, hf3⟩)
        | (go_at_call 29; refine (zba hT _).mono ?_; rintro e w4 ⟨rfl, hf4⟩))
       go_ret; exact ⟨rfl, (HF2.out.trans0 hf3).trans0 hf4⟩
end Go.Proofs.YthljnnjpmdgkoaaGreat
