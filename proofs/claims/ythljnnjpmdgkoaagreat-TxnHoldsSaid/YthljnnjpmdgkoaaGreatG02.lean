/- Lemmas for the claim. Conditions stand in each. -/
import Derived.Test.YthljnnjpmdgkoaaGreatG01
import Derived.Test.YthljnnjpmdgkoaaGreatG00
import Derived.Deep.DeepCutAuto
import Derived.Test.YthljnnjpmdgkoaaGreatProg
import Derived.Outline
import Derived.StillTail
import Derived.StillTailTactics
import Derived.OrdersIn
import Derived.TacticsIn
import Derived.OwnWalkIn
import Derived.TacticsInMore
import Derived.RangeFuncCalls
namespace Go.Proofs.YthljnnjpmdgkoaaGreat
open Go Go.Proofs Go.RowKit
set_option maxRecDepth 100000
def clash (o p : Opr) : Bool := (p.kind == 1 && p.rg.key.toList == o.rg.key.toList) || (p.kind == 2 && inB o.rg.key p.rg.key p.rg.end_)
theorem zoo (w : World) (o p : Opr) (b : Nat) (hb : w.heap[b]? = some (.cells (opC o).toArray 94 (0, 0))) :
 Calls Tryz.prog 128 #[opV p, .pointer (some ⟨b, 0, none⟩)] w fun e w' => e = .returned (.bool (clash o p)) ∧ Fr No w w' := by
 obtain ⟨p1, ⟨g1, g2, g3, g4, g5, g6, g7⟩, p2, p3⟩ := p; unfold opV clash; dsimp only; have hbl := zaa hb; have x1 : w.cell? ⟨b, 1, none⟩ = some (.string o.rg.key) := by unfold World.cell?; simp only; rw [hb]; rfl
 have hB := H_ hb; clear hb; by_cases h1 : p1 = 1
 · subst h1
   cases h2 : (g1.toList == o.rg.key.toList)
   · go_enter Tryz.func128, Tryz.ntmps128
     go_wp2; go_ret; exact ⟨by simp, (Fr.refl No w).alloc _⟩
   go_enter Tryz.func128, Tryz.ntmps128
   go_wp2; go_ret; exact ⟨by simp, (Fr.refl No w).alloc _⟩
 have h1' : (p1 == 1) = false := by simpa using h1
 by_cases h2 : p1 = 2
 · subst h2
   go_enter Tryz.func128, Tryz.ntmps128; go_wp2_with (go_at_call 129; refine (zwm _ _ _ _).mono ?_; rintro e w' ⟨rfl, rfl⟩); go_ret; exact ⟨by simp, (Fr.refl No w).alloc _⟩
 have h2' : (p1 == 2) = false := by simpa using h2
 go_enter Tryz.func128, Tryz.ntmps128; go_wp2; go_ret; exact ⟨by simp [h1', h2'], (Fr.refl No w).alloc _⟩
def idxOp (P : Opr → Bool) (l : List Opr) : Int := if l.findIdx P = l.length then -1 else (l.findIdx P : Int)
theorem zgz (w : World) (v : Value) (l : List Opr) (o : Opr) (b : Nat) (hb : w.heap[b]? = some (.cells (opC o).toArray 94 (0, 0))) (hv : SlR w 10 opC v l) (hl : l.length ≤ 1099511627) :
 Calls Tryz.prog 165 #[v, .func (.func 128) #[] #[.pointer (some ⟨b, 0, none⟩)]] w fun e w' => e = .returned (.int .i64 (idxOp (clash o) l)) ∧ Fr No w w' := by
 obtain ⟨a, cap, rfl, hc1, hc2, ha⟩ := hv.shape; have HV := H_ hv; clear hv; have HA := H_ ha; clear ha; have HB := H_ hb; clear hb; go_enter Tryz.func165, Tryz.ntmps165; go_wp2
 go_loopg [8] l.length (fun g s8 wr => ∃ i : Nat, s8 = .int .i64 i ∧ i + g = l.length ∧ Hid (∀ j, j < i → ∀ p, l[j]? = some p → clash o p = false) ∧ Hid (Fr No w wr))
 case atStart => exact ⟨0, rfl, by simp, H_ (by simp), H_ (Fr.refl No w)⟩
 case round =>
  obtain ⟨i, rfl, hi, HJ, HF⟩ := hrel
  cases gk with
  | zero =>
    have hil : ¬ (i : Int) < (l.length : Int) := (by omega); go_wp2; go_ret; refine ⟨?_, HF.out⟩
    have hu : l.findIdx (clash o) = l.length := by
     rw [List.findIdx_eq_length]; intro x hx; obtain ⟨j, hj, rfl⟩ := List.getElem_of_mem hx; exact HJ.out j (by omega) _ (List.getElem?_eq_getElem hj)
    unfold idxOp; rw [if_pos hu]
    rfl
  | succ g =>
    obtain ⟨gb, go, rfl⟩ := HA.out (by omega); obtain ⟨p, hx⟩ : ∃ p, l[i]? = some p := ⟨_, List.getElem?_eq_getElem (by omega)⟩; have hvr := HV.out.fr0 HF.out; have x0 := hvr.cell0 zag i hx rfl; have x1 := hvr.cell zag i 1 hx rfl; have x2 := hvr.cell zag i 2 hx rfl; have x3 := hvr.cell zag i 3 hx rfl; have x4 := hvr.cell zag i 4 hx rfl; have x5 := hvr.cell zag i 5 hx rfl; have x6 := hvr.cell zag i 6 hx rfl; have x7 := hvr.cell zag i 7 hx rfl; have x8 := hvr.cell zag i 8 hx rfl; have x9 := hvr.cell zag i 9 hx rfl; have hil : (i : Int) < (l.length : Int) := (by omega); have hcl := zoo wr o p b (HF.out.heap HB.out id); unfold opV at hcl; cases hp : clash o p
    · rw [hp] at hcl
      have Hx := H_ hx; have Hp := H_ hp; clear hx hp hvr; go_wp2_with (go_at_call 128; refine hcl.mono ?_; rintro e w1 ⟨rfl, hf⟩); go_roundg g
      case rel => exact ⟨i + 1, by go_num, by omega, H_ (fun j hj q hq => by
       by_cases hji : j = i
       · subst hji; rw [Hx.out] at hq; cases hq; exact Hp.out
       exact HJ.out j (by omega) q hq), H_ (HF.out.trans0 hf)⟩
      case measure => omega
    rw [hp] at hcl
    have Hx := H_ hx; have Hp := H_ hp; clear hx hp hvr; go_wp2_with (go_at_call 128; refine hcl.mono ?_; rintro e w1 ⟨rfl, hf⟩); go_ret; refine ⟨?_, HF.out.trans0 hf⟩
    have hu : l.findIdx (clash o) = i := by
     have hil' : i < l.length := (by omega); rw [List.findIdx_eq hil']; have hgi : l[i] = p := (List.getElem?_eq_some_iff.1 Hx.out).2; refine ⟨by rw [hgi]; exact Hp.out, fun j hj => ?_⟩; exact HJ.out j hj _ (List.getElem?_eq_getElem (by omega))
    unfold idxOp; rw [hu, if_neg (by omega)]
    rfl
theorem zcy (w : World) (v : Value) (l : List Opr) (o : Opr) (b : Nat) (hb : w.heap[b]? = some (.cells (opC o).toArray 94 (0, 0))) (hv : SlR w 10 opC v l) (hl : l.length ≤ 1099511627) :
 Calls Tryz.prog 130 #[v, .func (.func 128) #[] #[.pointer (some ⟨b, 0, none⟩)]] w fun e w' => e = .returned (.bool (l.any (clash o))) ∧ Fr No w w' := by
 have hidx := zgz w v l o b hb hv hl
 have hd : (0 ≤ idxOp (clash o) l ∧ l.any (clash o) = true) ∨ (¬ 0 ≤ idxOp (clash o) l ∧ l.any (clash o) = false) := by
  unfold idxOp; by_cases h : l.findIdx (clash o) = l.length
  · rw [if_pos h]
    rw [List.findIdx_eq_length] at h; exact .inr ⟨by omega, by rw [List.any_eq_false]; simpa using h⟩
  rw [if_neg h]
  refine .inl ⟨by omega, ?_⟩; have hlt : l.findIdx (clash o) < l.length := Nat.lt_of_le_of_ne List.findIdx_le_length h; rw [List.any_eq_true]; exact ⟨_, List.getElem_mem hlt, List.findIdx_getElem⟩
 generalize idxOp (clash o) l = n at *; generalize l.any (clash o) = t at *; clear hv hb; rcases hd with ⟨h1, rfl⟩ | ⟨h1, rfl⟩
 all_goals
  go_enter Tryz.func130, Tryz.ntmps130; go_wp2_with (go_at_call 165; refine hidx.mono ?_; rintro e w1 ⟨rfl, hf⟩); go_ret; exact ⟨by first | rfl | (simp; omega), hf⟩
def zel (l : List Opr) (i : Nat) : Bool := match l[i]? with
 | some o => o.kind == 1 && ((l.take i).any (clash o) || (l.drop (i + 1)).any (clash o))
 | none => false
def twice (l : List Opr) : Bool := (List.range l.length).any (zel l)
def checkE (l : List Opr) : Int := if 16 < l.length then 31 else match l.find? fun o => oneE o != 0 with
 | some o => oneE o
 | none => if twice l then 34 else 0
set_option maxHeartbeats 4000000 in
theorem zeh (w : World) (v : Value) (l : List Opr) (hv : SlR w 10 opC v l) (hl : l.length ≤ 1099511627) (hks : ∀ o ∈ l, o.rg.key.size ≤ 1099511627776) :
 Calls Tryz.prog 83 #[v] w fun e w' => e = .returned (.int .i64 (checkE l)) ∧ Fr No w w' := by
 obtain ⟨a, cap, rfl, hc1, hc2, ha⟩ := hv.shape; have HV := H_ hv; clear hv; have HA := H_ ha; clear ha; have HKS := H_ hks; clear hks; by_cases h16 : 16 < l.length
 · have h16' : (16 : Int) < (l.length : Int) := by omega
   have : checkE l = 31 := (by unfold checkE; rw [if_pos h16]); rw [this]; go_enter Tryz.func83, Tryz.ntmps83; go_wp2; go_ret; exact ⟨rfl, Fr.refl No w⟩
 have h16' : ¬ (16 : Int) < (l.length : Int) := by omega
 have hE : checkE l = match l.find? fun o => oneE o != 0 with
  | some o => oneE o
  | none => if twice l then 34 else 0 := by unfold checkE; rw [if_neg h16]
 have HE := H_ hE; clear hE; go_enter Tryz.func83, Tryz.ntmps83; go_wp2
 go_loopg [14] l.length (fun g s14 wr => ∃ i : Nat, s14 = .int .i64 i ∧ i + g = l.length ∧ Hid (∀ j, j < i → ∀ p, l[j]? = some p → oneE p = 0) ∧ Hid (Fr No w wr))
 case atStart => exact ⟨0, rfl, by simp, H_ (by simp), H_ (Fr.refl No w)⟩
 case round =>
  obtain ⟨i, rfl, hi, HJ, HF⟩ := hrel
  cases gk with
  | zero =>
    have hil : ¬ (i : Int) < (l.length : Int) := (by omega)
    have hE2 : checkE l = if twice l then 34 else 0 := by
     rw [HE.out]
     have : l.find? (fun o => oneE o != 0) = none := by
      rw [List.find?_eq_none]; intro x hx; obtain ⟨j, hj, rfl⟩ := List.getElem_of_mem hx; have := HJ.out j (by omega) _ (List.getElem?_eq_getElem hj); simp [this]
     rw [this]
    have HE2 := H_ hE2; clear hE2; have HF1 := HF; clear HJ; have hmf : ∀ (fn : Fn) (first cap : Array Value) (w : World), (Instr.makeFunc fn first cap).run Tryz.prog w = .ok (.func fn first cap) w := fun _ _ _ _ => rfl; go_wp2
    go_loopg [26] l.length (fun g s26 wr => ∃ i : Nat, s26 = .int .i64 i ∧ i + g = l.length ∧ Hid (∀ j, j < i → zel l j = false) ∧ Hid (Fr No w wr))
    case atStart => exact ⟨0, rfl, by simp, H_ (by simp), HF1⟩
    case round =>
     obtain ⟨i, rfl, hi, HJ, HF⟩ := hrel
     cases gk with
     | zero =>
       have hil : ¬ (i : Int) < (l.length : Int) := (by omega)
       have hE3 : checkE l = 0 := by
        rw [HE2.out]
        have : twice l = false := by
         unfold twice; rw [List.any_eq_false]; intro j hj; simp at hj; simpa using HJ.out j (by omega)
        rw [this]; rfl
       have HE3 := H_ hE3; clear hE3; go_wp2; go_ret; exact ⟨by rw [HE3.out]; rfl, HF.out⟩
     | succ g =>
       obtain ⟨gb, go, rfl⟩ := HA.out (by omega); obtain ⟨p, hx⟩ : ∃ p, l[i]? = some p := ⟨_, List.getElem?_eq_getElem (by omega)⟩; have hvr := HV.out.fr0 HF.out; have x0 := hvr.cell0 zag i hx rfl; have x1 := hvr.cell zag i 1 hx rfl; have x2 := hvr.cell zag i 2 hx rfl; have x3 := hvr.cell zag i 3 hx rfl; have x4 := hvr.cell zag i 4 hx rfl; have x5 := hvr.cell zag i 5 hx rfl; have x6 := hvr.cell zag i 6 hx rfl; have x7 := hvr.cell zag i 7 hx rfl; have x8 := hvr.cell zag i 8 hx rfl; have x9 := hvr.cell zag i 9 hx rfl; have hil : (i : Int) < (l.length : Int) := (by omega); have hta : zel l i = (p.kind == 1 && ((l.take i).any (clash p) || (l.drop (i + 1)).any (clash p))) := (by unfold zel; rw [hx]); have HVR := H_ hvr; have HTA := H_ hta
       have hsub : ∀ b : Bool, zel l i = b → b = true → checkE l = 34 := by
        intro b hb hbt; rw [HE2.out, if_pos]; unfold twice; rw [List.any_eq_true]; exact ⟨i, by simp; omega, by rw [hb, hbt]⟩
       have HSUB := H_ hsub; clear hx hvr hta hsub; obtain ⟨p1, ⟨g1, g2, g3, g4, g5, g6, g7⟩, p2, p3⟩ := p
       have hnext : ∀ (wz : World), zel l i = false → Fr No w wz → ∃ k : Nat, Value.int .i64 ((i : Int) + 1) = .int .i64 k ∧ k + g = l.length ∧ Hid (∀ j, j < k → zel l j = false) ∧ Hid (Fr No w wz) := fun wz h hf =>
        ⟨i + 1, by go_num, by omega, H_ (fun j hj => by
          by_cases hji : j = i
          · subst hji; exact h
          exact HJ.out j (by omega)), H_ hf⟩
       have HN := H_ hnext; clear hnext; by_cases h1 : p1 = 1
       · subst h1
         have hi0 : (0 : Int) ≤ (i : Int) + 1 := (by omega); have hi1 : (i : Int) + 1 ≤ (l.length : Int) := (by omega); have hi2 : i ≤ l.length := (by omega); have hi3 : i + 1 ≤ l.length := (by omega); have hi4 : (i : Int) ≤ (cap : Int) := (by omega); have hi5 : i ≤ cap := (by omega); have hst := HVR.out.take zag i hi2; have hsd := HVR.out.drop zag (i + 1) hi3; have HST := H_ hst; have HSD := H_ hsd; clear hst hsd; have htl : (l.take i).length = i := (by simp; omega); have hdl : (l.drop (i + 1)).length = l.length - (i + 1) := (by simp); have hca := fun W hb hv => zcy W (.slice (some ⟨gb, go, none⟩) i cap) (l.take i) ⟨1, ⟨g1, g2, g3, g4, g5, g6, g7⟩, p2, p3⟩ wr.heap.size hb hv (by omega); have hcb := fun W A hb hv => zcy W (.slice A (l.length - (i + 1)) (cap - (i + 1))) (l.drop (i + 1)) ⟨1, ⟨g1, g2, g3, g4, g5, g6, g7⟩, p2, p3⟩ wr.heap.size hb hv (by omega); have HTL := H_ htl
         have HDL := H_ hdl; clear htl hdl; generalize hA1 : (if cap = i + 1 then some (⟨gb, go, none⟩ : Addr) else some ⟨gb, go + (i + 1) * 10, none⟩) = A1 at HSD; have HTA' := HTA.out; simp only at HTA'; cases ht1 : (l.take i).any (clash ⟨1, ⟨g1, g2, g3, g4, g5, g6, g7⟩, p2, p3⟩)
         · rw [ht1] at hca HTA'
           have HCA := H_ hca; clear hca ht1; cases ht2 : (l.drop (i + 1)).any (clash ⟨1, ⟨g1, g2, g3, g4, g5, g6, g7⟩, p2, p3⟩)
           · rw [ht2] at hcb HTA'
             have HCB := H_ hcb; have HTA2 := H_ HTA'; clear hcb ht2 HTA'
             go_wp2_with (first
              | (go_at_call 130; refine (HCA.out _ (zad _ _ _ rfl) (HST.out.alloc _)).mono ?_; rintro e w1 ⟨rfl, hf⟩
                 have hb1 := hf.heap (zad wr (.cells #[.int .i64 1, .string g1, .string g2, .int .i64 g3, .int .i64 g4, .bool g5, .bool g6, .bool g7, .string p2, .int .i64 p3] 94) _ rfl) id; have hs1 := (HSD.out.alloc (.cells #[.int .i64 1, .string g1, .string g2, .int .i64 g3, .int .i64 g4, .bool g5, .bool g6, .bool g7, .string p2, .int .i64 p3] 94)).fr0 hf; have HB1 := H_ hb1; have HS1 := H_ hs1; clear hb1 hs1)
              | (go_at_call 130; refine (HCB.out _ _ HB1.out HS1.out).mono ?_; rintro e w2 ⟨rfl, hf2⟩))
             go_roundg g
             case rel => exact HN.out _ (by rw [HTA2.out]; rfl) (((HF.out.alloc _).trans0 hf).trans0 hf2)
             case measure => omega
           rw [ht2] at hcb HTA'
           have HCB := H_ hcb; have HTA2 := H_ HTA'; clear hcb ht2 HTA'
           go_wp2_with (first
            | (go_at_call 130; refine (HCA.out _ (zad _ _ _ rfl) (HST.out.alloc _)).mono ?_; rintro e w1 ⟨rfl, hf⟩
               have hb1 := hf.heap (zad wr (.cells #[.int .i64 1, .string g1, .string g2, .int .i64 g3, .int .i64 g4, .bool g5, .bool g6, .bool g7, .string p2, .int .i64 p3] 94) _ rfl) id; have hs1 := (HSD.out.alloc (.cells #[.int .i64 1, .string g1, .string g2, .int .i64 g3, .int .i64 g4, .bool g5, .bool g6, .bool g7, .string p2, .int .i64 p3] 94)).fr0 hf; have HB1 := H_ hb1; have HS1 := H_ hs1; clear hb1 hs1)
            | (go_at_call 130; refine (HCB.out _ _ HB1.out HS1.out).mono ?_; rintro e w2 ⟨rfl, hf2⟩))
           go_ret; exact ⟨by rw [HSUB.out _ HTA2.out rfl]; rfl, ((HF.out.alloc _).trans0 hf).trans0 hf2⟩
         rw [ht1] at hca HTA'
         have HCA := H_ hca; have HTA2 := H_ HTA'; clear hca ht1 hcb HTA'; go_wp2_with (go_at_call 130; refine (HCA.out _ (zad _ _ _ rfl) (HST.out.alloc _)).mono ?_; rintro e w1 ⟨rfl, hf⟩); go_ret; exact ⟨by rw [HSUB.out _ HTA2.out rfl]; rfl, (HF.out.alloc _).trans0 hf⟩
       have h1' : (p1 == 1) = false := by simpa using h1
       go_wp2; go_roundg g
       case rel => exact HN.out _ (by rw [HTA.out, h1']; rfl) (HF.out.alloc _)
       case measure => omega
  | succ g =>
    obtain ⟨gb, go, rfl⟩ := HA.out (by omega); obtain ⟨p, hx⟩ : ∃ p, l[i]? = some p := ⟨_, List.getElem?_eq_getElem (by omega)⟩; have hvr := HV.out.fr0 HF.out; have x0 := hvr.cell0 zag i hx rfl; have x1 := hvr.cell zag i 1 hx rfl; have x2 := hvr.cell zag i 2 hx rfl; have x3 := hvr.cell zag i 3 hx rfl; have x4 := hvr.cell zag i 4 hx rfl; have x5 := hvr.cell zag i 5 hx rfl; have x6 := hvr.cell zag i 6 hx rfl; have x7 := hvr.cell zag i 7 hx rfl; have x8 := hvr.cell zag i 8 hx rfl; have x9 := hvr.cell zag i 9 hx rfl; have hil : (i : Int) < (l.length : Int) := (by omega); have hone := fun W => ztd W p (HKS.out p (List.mem_of_getElem? hx)); unfold opV at hone; by_cases hp : oneE p = 0
    · rw [hp] at hone
      have Hx := H_ hx; have Hp := H_ hp; have Ho := H_ hone; clear hx hp hvr hone; go_wp2_with (go_at_call 127; refine (Ho.out _).mono ?_; rintro e w1 ⟨rfl, hf⟩); go_roundg g
      case rel => exact ⟨i + 1, by go_num, by omega, H_ (fun j hj q hq => by
       by_cases hji : j = i
       · subst hji; rw [Hx.out] at hq; cases hq; exact Hp.out
       exact HJ.out j (by omega) q hq), H_ ((HF.out.alloc _).trans0 hf)⟩
      case measure => omega
    have hp' : (oneE p == 0) = false := by simpa using hp
    have hE2 : checkE l = oneE p := by
     rw [HE.out]
     have : l.find? (fun o => oneE o != 0) = some p := by
      rw [List.find?_eq_some_iff_getElem]; have hil' : i < l.length := (by omega); refine ⟨by simpa using hp, i, hil', (List.getElem?_eq_some_iff.1 hx).2, fun j hj => ?_⟩; have := HJ.out j hj _ (List.getElem?_eq_getElem (by omega)); simp [this]
     rw [this]
    have HE2 := H_ hE2; have Ho := H_ hone; generalize oneE p = ep at *; clear hx hp hvr hone hE2; go_wp2_with (go_at_call 127; refine (Ho.out _).mono ?_; rintro e w1 ⟨rfl, hf⟩); go_ret; exact ⟨by rw [HE2.out]; rfl, (HF.out.alloc _).trans0 hf⟩
structure Cmp where
 key : ByteArray
 what : Int
 how : Int
 number : Int
 value : ByteArray
def cmpV (c : Cmp) : Value := .agg #[.string c.key, .int .i64 c.what, .int .i64 c.how, .int .i64 c.number, .string c.value]
def cmpC (c : Cmp) : List Value := [.string c.key, .int .i64 c.what, .int .i64 c.how, .int .i64 c.number, .string c.value]
theorem zbb (c : Cmp) : (cmpC c).length = 5 := rfl
def cmpE (c : Cmp) : Int :=
 if keyE c.key ≠ 0 then keyE c.key else if c.what < 1 ∨ 5 < c.what then 1 else if 1024 < c.value.size then 31
 else if (c.what = 4 ∧ c.number ≠ 0) ∨ (c.what ≠ 4 ∧ c.value.toList ≠ []) then 1 else 0
theorem zde (w : World) (c : Cmp) (hs : c.key.size ≤ 1099511627776) : Calls Tryz.prog 75 #[cmpV c] w fun e w' => e = .returned (.int .i64 (cmpE c)) ∧ Fr No w w' := by
 have hk := fun W => zil W c.key hs; obtain ⟨c1, c2, c3, c4, c5⟩ := c; unfold cmpE cmpV; dsimp only at *; generalize keyE c1 = k at *; clear hs; by_cases h1 : k ≠ 0
 · have h1' : (k == 0) = false := by simpa using h1
   rw [if_pos h1]; go_enter Tryz.func75, Tryz.ntmps75; go_wp2_with (go_at_call 65; refine (hk _).mono ?_; rintro e w1 ⟨rfl, hf⟩); go_ret; exact ⟨rfl, ((Fr.refl No w).alloc _).trans0 hf⟩
 have h1' : (k == 0) = true := by simpa using h1
 rw [if_neg h1]; by_cases h2 : c2 < 1
 · rw [if_pos (.inl h2)]
   go_enter Tryz.func75, Tryz.ntmps75
   go_wp2_with (go_at_call 65; refine (hk _).mono ?_; rintro e w1 ⟨rfl, hf⟩
                have hb : w1.heap[w.heap.size]? = some (.cells #[.string c1, .int .i64 c2, .int .i64 c3, .int .i64 c4, .string c5] 53 (0, 0)) := hf.heap (zad _ _ _ rfl) id; have x1 : w1.cell? ⟨w.heap.size, 1, none⟩ = some (.int .i64 c2) := by simp [World.cell?, hb])
   go_ret; exact ⟨rfl, ((Fr.refl No w).alloc _).trans0 hf⟩
 by_cases h3 : 5 < c2
 · rw [if_pos (.inr h3)]
   go_enter Tryz.func75, Tryz.ntmps75
   go_wp2_with (go_at_call 65; refine (hk _).mono ?_; rintro e w1 ⟨rfl, hf⟩
                have hb : w1.heap[w.heap.size]? = some (.cells #[.string c1, .int .i64 c2, .int .i64 c3, .int .i64 c4, .string c5] 53 (0, 0)) := hf.heap (zad _ _ _ rfl) id; have x1 : w1.cell? ⟨w.heap.size, 1, none⟩ = some (.int .i64 c2) := by simp [World.cell?, hb])
   go_ret; exact ⟨rfl, ((Fr.refl No w).alloc _).trans0 hf⟩
 rw [if_neg (c := c2 < 1 ∨ 5 < c2) (by omega)]
 by_cases h4 : 1024 < c5.size
 · have h4' : (1024 : Int) < (c5.size : Int) := by omega
   rw [if_pos h4]; go_enter Tryz.func75, Tryz.ntmps75
   go_wp2_with (go_at_call 65; refine (hk _).mono ?_; rintro e w1 ⟨rfl, hf⟩
                have hb : w1.heap[w.heap.size]? = some (.cells #[.string c1, .int .i64 c2, .int .i64 c3, .int .i64 c4, .string c5] 53 (0, 0)) := hf.heap (zad _ _ _ rfl) id; have x1 : w1.cell? ⟨w.heap.size, 1, none⟩ = some (.int .i64 c2) := (by simp [World.cell?, hb]); have x4 : w1.cell? ⟨w.heap.size, 4, none⟩ = some (.string c5) := by simp [World.cell?, hb])
   go_ret; exact ⟨rfl, ((Fr.refl No w).alloc _).trans0 hf⟩
 have h4' : ¬ (1024 : Int) < (c5.size : Int) := by omega
 rw [if_neg h4]; by_cases h5 : c2 = 4
 · subst h5
   by_cases h6 : c4 = 0
   · subst h6
     rw [if_neg (by simp)]; go_enter Tryz.func75, Tryz.ntmps75
     go_wp2_with (go_at_call 65; refine (hk _).mono ?_; rintro e w1 ⟨rfl, hf⟩
                  have hb : w1.heap[w.heap.size]? = some (.cells #[.string c1, .int .i64 4, .int .i64 c3, .int .i64 0, .string c5] 53 (0, 0)) := hf.heap (zad _ _ _ rfl) id; have x1 : w1.cell? ⟨w.heap.size, 1, none⟩ = some (.int .i64 4) := (by simp [World.cell?, hb]); have x3 : w1.cell? ⟨w.heap.size, 3, none⟩ = some (.int .i64 0) := (by simp [World.cell?, hb]); have x4 : w1.cell? ⟨w.heap.size, 4, none⟩ = some (.string c5) := by simp [World.cell?, hb])
     go_ret; exact ⟨rfl, ((Fr.refl No w).alloc _).trans0 hf⟩
   have h6' : (c4 == 0) = false := by simpa using h6
   rw [if_pos (.inl ⟨rfl, h6⟩)]; go_enter Tryz.func75, Tryz.ntmps75
   go_wp2_with (go_at_call 65; refine (hk _).mono ?_; rintro e w1 ⟨rfl, hf⟩
                have hb : w1.heap[w.heap.size]? = some (.cells #[.string c1, .int .i64 4, .int .i64 c3, .int .i64 c4, .string c5] 53 (0, 0)) := hf.heap (zad _ _ _ rfl) id; have x1 : w1.cell? ⟨w.heap.size, 1, none⟩ = some (.int .i64 4) := (by simp [World.cell?, hb]); have x3 : w1.cell? ⟨w.heap.size, 3, none⟩ = some (.int .i64 c4) := (by simp [World.cell?, hb]); have x4 : w1.cell? ⟨w.heap.size, 4, none⟩ = some (.string c5) := by simp [World.cell?, hb])
   go_ret; exact ⟨rfl, ((Fr.refl No w).alloc _).trans0 hf⟩
 have h5' : (c2 == 4) = false := by simpa using h5
 by_cases h6 : c5.toList = []
 · have h6' : c5.toList.isEmpty = true := by rw [h6]; rfl
   have h6'' : (c5.toList == []) = true := (by rw [h6]; rfl); rw [if_neg (by simp [h5, h6])]; go_enter Tryz.func75, Tryz.ntmps75
   go_wp2_with (go_at_call 65; refine (hk _).mono ?_; rintro e w1 ⟨rfl, hf⟩
                have hb : w1.heap[w.heap.size]? = some (.cells #[.string c1, .int .i64 c2, .int .i64 c3, .int .i64 c4, .string c5] 53 (0, 0)) := hf.heap (zad _ _ _ rfl) id; have x1 : w1.cell? ⟨w.heap.size, 1, none⟩ = some (.int .i64 c2) := (by simp [World.cell?, hb]); have x3 : w1.cell? ⟨w.heap.size, 3, none⟩ = some (.int .i64 c4) := (by simp [World.cell?, hb]); have x4 : w1.cell? ⟨w.heap.size, 4, none⟩ = some (.string c5) := by simp [World.cell?, hb])
   go_ret; exact ⟨rfl, ((Fr.refl No w).alloc _).trans0 hf⟩
 have h6' : c5.toList.isEmpty = false := by simpa using h6
 have h6'' : (c5.toList == []) = false := (by simpa using h6); rw [if_pos (.inr ⟨h5, h6⟩)]; go_enter Tryz.func75, Tryz.ntmps75
 go_wp2_with (go_at_call 65; refine (hk _).mono ?_; rintro e w1 ⟨rfl, hf⟩
              have hb : w1.heap[w.heap.size]? = some (.cells #[.string c1, .int .i64 c2, .int .i64 c3, .int .i64 c4, .string c5] 53 (0, 0)) := hf.heap (zad _ _ _ rfl) id; have x1 : w1.cell? ⟨w.heap.size, 1, none⟩ = some (.int .i64 c2) := (by simp [World.cell?, hb]); have x3 : w1.cell? ⟨w.heap.size, 3, none⟩ = some (.int .i64 c4) := (by simp [World.cell?, hb]); have x4 : w1.cell? ⟨w.heap.size, 4, none⟩ = some (.string c5) := by simp [World.cell?, hb])
 go_ret; exact ⟨rfl, ((Fr.refl No w).alloc _).trans0 hf⟩
def txnE (cs : List Cmp) (a b : List Opr) : Int := if 16 < cs.length then 31 else match cs.find? fun c => cmpE c != 0 with
 | some c => cmpE c
 | none => if checkE a ≠ 0 then checkE a else checkE b
set_option maxHeartbeats 4000000 in
theorem zfj (w : World) (v va vb : Value) (cs : List Cmp) (la lb : List Opr) (hv : SlR w 5 cmpC v cs) (hva : SlR w 10 opC va la) (hvb : SlR w 10 opC vb lb) (hl : cs.length ≤ 1099511627) (hla : la.length ≤ 1099511627) (hlb : lb.length ≤ 1099511627)
 (hks : ∀ c ∈ cs, c.key.size ≤ 1099511627776) (hka : ∀ o ∈ la, o.rg.key.size ≤ 1099511627776) (hkb : ∀ o ∈ lb, o.rg.key.size ≤ 1099511627776) :
 Calls Tryz.prog 38 #[v, va, vb] w fun e w' => e = .returned (.int .i64 (txnE cs la lb)) ∧ Fr No w w' := by
 have hca := fun W (h : Fr No w W) => zeh W va la (hva.fr0 h) hla hka; have hcb := fun W (h : Fr No w W) => zeh W vb lb (hvb.fr0 h) hlb hkb; obtain ⟨a, cap, rfl, hc1, hc2, ha⟩ := hv.shape; have HV := H_ hv; clear hv; have HA := H_ ha; clear ha; have HKS := H_ hks; clear hks; have HCA := H_ hca; clear hca; have HCB := H_ hcb; clear hcb; by_cases h16 : 16 < cs.length
 · have h16' : (16 : Int) < (cs.length : Int) := by omega
   have : txnE cs la lb = 31 := (by unfold txnE; rw [if_pos h16]); rw [this]; go_enter Tryz.func38, Tryz.ntmps38; go_wp2; go_ret; exact ⟨rfl, Fr.refl No w⟩
 have h16' : ¬ (16 : Int) < (cs.length : Int) := by omega
 have hE : txnE cs la lb = match cs.find? fun c => cmpE c != 0 with
  | some c => cmpE c
  | none => if checkE la ≠ 0 then checkE la else checkE lb := by unfold txnE; rw [if_neg h16]
 have HE := H_ hE; clear hE; go_enter Tryz.func38, Tryz.ntmps38; go_wp2
 go_loopg [16] cs.length (fun g s16 wr => ∃ i : Nat, s16 = .int .i64 i ∧ i + g = cs.length ∧ Hid (∀ j, j < i → ∀ p, cs[j]? = some p → cmpE p = 0) ∧ Hid (Fr No w wr))
 case atStart => exact ⟨0, rfl, by simp, H_ (by simp), H_ (Fr.refl No w)⟩
 case round =>
  obtain ⟨i, rfl, hi, HJ, HF⟩ := hrel
  cases gk with
  | zero =>
    have hil : ¬ (i : Int) < (cs.length : Int) := (by omega)
    have hE2 : txnE cs la lb = if checkE la ≠ 0 then checkE la else checkE lb := by
     rw [HE.out]
     have : cs.find? (fun o => cmpE o != 0) = none := by
      rw [List.find?_eq_none]; intro x hx; obtain ⟨j, hj, rfl⟩ := List.getElem_of_mem hx; have := HJ.out j (by omega) _ (List.getElem?_eq_getElem hj); simp [this]
     rw [this]
    have HE2 := H_ hE2; clear hE2 HE HJ; generalize checkE la = ka at *; generalize checkE lb = kb at *; by_cases h1 : ka ≠ 0
    · have h1' : (ka == 0) = false := by simpa using h1
      have HE3 : Hid (txnE cs la lb = ka) := H_ (by rw [HE2.out, if_pos h1]); go_wp2_with (go_at_call 83; refine (HCA.out _ HF.out).mono ?_; rintro e w1 ⟨rfl, hf⟩); go_ret; exact ⟨by rw [HE3.out]; rfl, HF.out.trans0 hf⟩
    have h1' : (ka == 0) = true := by simpa using h1
    have HE3 : Hid (txnE cs la lb = kb) := H_ (by rw [HE2.out, if_neg h1]); have hk0 : ka = 0 := (by simpa using h1); subst hk0; go_upto_region 13 with (go_at_call 83; refine (HCA.out _ HF.out).mono ?_; rintro e w1 ⟨rfl, hf⟩); go_wp2_with (go_at_call 83; refine (HCB.out _ (HF.out.trans0 hf)).mono ?_; rintro e w2 ⟨rfl, hf2⟩); go_ret; exact ⟨by rw [HE3.out]; rfl, (HF.out.trans0 hf).trans0 hf2⟩
  | succ g =>
    obtain ⟨gb, go, rfl⟩ := HA.out (by omega); obtain ⟨p, hx⟩ : ∃ p, cs[i]? = some p := ⟨_, List.getElem?_eq_getElem (by omega)⟩; have hvr := HV.out.fr0 HF.out; have x0 := hvr.cell0 zbb i hx rfl; have x1 := hvr.cell zbb i 1 hx rfl; have x2 := hvr.cell zbb i 2 hx rfl; have x3 := hvr.cell zbb i 3 hx rfl; have x4 := hvr.cell zbb i 4 hx rfl; have hil : (i : Int) < (cs.length : Int) := (by omega); have hcw := fun W => zde W p (HKS.out p (List.mem_of_getElem? hx)); unfold cmpV at hcw; have HCW := H_ hcw; have Hx := H_ hx
    have hfi : (∀ j, j < i → ∀ p, cs[j]? = some p → cmpE p = 0) → cmpE p ≠ 0 → txnE cs la lb = cmpE p := by
     intro hj hp; rw [HE.out]
     have hff : cs.find? (fun o => cmpE o != 0) = some p := by
      rw [List.find?_eq_some_iff_getElem]; have hil' : i < cs.length := (List.getElem?_eq_some_iff.1 hx).1; refine ⟨by simpa using hp, i, hil', (List.getElem?_eq_some_iff.1 hx).2, fun j hji => ?_⟩; have := hj j hji _ (List.getElem?_eq_getElem (by omega)); simp [this]
     rw [hff]
    have HFI := H_ hfi; clear hvr hx hcw hfi HCA HCB; generalize hcp : cmpE p = kp at *; have HCP := H_ hcp; clear hcp; by_cases h1 : kp ≠ 0
    · have h1' : (kp == 0) = false := by simpa using h1
      have HE3 := H_ (HFI.out HJ.out h1); clear HFI; go_wp2_with (go_at_call 75; refine (HCW.out _).mono ?_; rintro e w1 ⟨rfl, hf⟩); go_ret; exact ⟨by rw [HE3.out]; rfl, (HF.out.alloc _).trans0 hf⟩
    have h1' : (kp == 0) = true := by simpa using h1
    clear HFI; go_wp2_with (go_at_call 75; refine (HCW.out _).mono ?_; rintro e w1 ⟨rfl, hf⟩); go_roundg g
    case rel => exact ⟨i + 1, by go_num, by omega, H_ (fun j hj q hq => by
     by_cases hji : j = i
     · subst hji; rw [Hx.out] at hq; cases hq; rw [HCP.out]; simpa using h1
     exact HJ.out j (by omega) q hq), H_ ((HF.out.alloc _).trans0 hf)⟩
    case measure => omega
def pairC (p : ByteArray × Int) : List Value := [.string p.1, .int .i64 p.2]
theorem zae (p : ByteArray × Int) : (pairC p).length = 2 := rfl
def nodeC (p : Value × Value) : List Value := [p.1, p.2]
theorem zlx (p : Value × Value) : (nodeC p).length = 2 := rfl
def Before (T : Pairs) (key : ByteArray) (i : Nat) : Prop := ∀ j : Nat, j < i → ∀ p, T[j]? = some p → klt p.1 key = true
theorem zld {T : Pairs} {key : ByteArray} {i : Nat} (h : Before T key i) (hi : i = T.length ∨ ∃ p, T[i]? = some p ∧ klt p.1 key = false) : spotOf T key = i := by
 unfold spotOf
 have hlen : ∀ j, j < i → j < T.length → (!klt (T[j]?.getD default).1 key) = false := by
  intro j hj hjl; have := h j hj _ (List.getElem?_eq_getElem hjl); simp [hjl, this]
 rcases hi with rfl | ⟨p, hp, hk⟩
 · rw [List.findIdx_eq_length]
   intro x hx; obtain ⟨j, hj, rfl⟩ := List.getElem_of_mem hx; have := h j hj _ (List.getElem?_eq_getElem hj); simp [this]
 have hil := (List.getElem?_eq_some_iff.1 hp).1
 rw [List.findIdx_eq hil]; have hp' := (List.getElem?_eq_some_iff.1 hp).2; refine ⟨by rw [hp']; simp [hk], fun j hj => ?_⟩; have := h j hj _ (List.getElem?_eq_getElem (by omega)); simp [this]
def zbq (T : Pairs) (key : ByteArray) : Value := .tuple #[.int .i64 (spotOf T key), .bool (hitOf T key)]
theorem zqi (w : World) (t at_ : Nat) (nv : Value) (pv kv : Value) (N : List (Value × Value)) (T : Pairs) (key : ByteArray)
 (ht : w.cell? ⟨t, 0, none⟩ = some nv) (hN : SlF w 231 2 nodeC nv N) (hat : N[at_]? = some (pv, kv)) (hn : N.length ≤ 1099511627776)
 (hT : SlF w 122 2 pairC pv T) (hl : T.length ≤ 1099511627776) :
 Calls Tryz.prog 157 #[.pointer (some ⟨t, 0, none⟩), .int .i64 at_, .string key] w fun e w' => e = .returned (zbq T key) ∧ w = w' := by
 have hlt := (List.getElem?_eq_some_iff.1 hat).1; obtain ⟨na, ncap, rfl, hc1, hc2, hna⟩ := hN.shape; obtain ⟨nb, no, rfl⟩ := hna (by omega); obtain ⟨pa, pcap, rfl, hc3, hc4, hpa⟩ := hT.shape; have hnode := hN.cell0 zlx at_ hat rfl; have hlt' : (at_ : Int) < (N.length : Int) := by omega
 have HT := H_ hT; have HA := H_ hpa; clear hN hat hna hT hpa; go_enter Tryz.func157, Tryz.ntmps157; go_wp2
 go_step3
 go_wp2
 go_step3
 go_wp2
 go_loopg [8, 9] T.length (fun g s8 _ wr => ∃ i : Nat, s8 = .int .i64 i ∧ i + g = T.length ∧ Hid (Before T key i) ∧ w = wr)
 case atStart => exact ⟨0, rfl, by simp, H_ (fun j hj => by omega), rfl⟩
 case round =>
  obtain ⟨i, rfl, hi, HB, rfl⟩ := hrel
  cases gk with
  | zero =>
    have hil : ((i : Int) == (T.length : Int)) = true := (by simp; omega); have hsp : spotOf T key = i := zld HB.out (.inl (by omega)); have hht : hitOf T key = false := (by unfold hitOf; rw [hsp, List.getElem?_eq_none (by omega)]); have HS := H_ hsp; have HH := H_ hht; clear hsp hht; go_wp2; rw [Exit.noGoto_ret]
    go_ret2
    exact ⟨by unfold zbq; rw [HS.out, HH.out]; rfl, rfl⟩
  | succ g =>
    obtain ⟨pb, po, rfl⟩ := HA.out (by omega); obtain ⟨p, hp⟩ : ∃ p, T[i]? = some p := ⟨_, List.getElem?_eq_getElem (by omega)⟩; have hcell := HT.out.cell0 zae i hp rfl; have hil : ((i : Int) == (T.length : Int)) = false := (by simp; omega); have hil2 : (i : Int) < (T.length : Int) := (by omega); have HP := H_ hp; clear hp; by_cases h1 : klt p.1 key = true
    · have h2 := klt_ne h1
      have HK := H_ h1; unfold klt at h1; unfold keq at h2; go_wp2; go_roundg g
      case rel => exact ⟨i + 1, by go_num, by omega, H_ (fun j hj q hq => by
       by_cases hji : j = i
       · subst hji; rw [HP.out] at hq; cases hq; exact HK.out
       exact HB.out j (by omega) q hq), rfl⟩
      case measure => omega
    simp only [Bool.not_eq_true] at h1
    have hsp : spotOf T key = i := zld HB.out (.inr ⟨p, HP.out, h1⟩); have hht : hitOf T key = keq p.1 key := (by unfold hitOf; rw [hsp, HP.out]); have HS := H_ hsp; clear hsp; by_cases h2 : keq p.1 key = true
    · rw [h2] at hht
      have HH := H_ hht; clear hht; unfold klt at h1; unfold keq at h2; go_wp2; rw [Exit.noGoto_ret]
      go_ret2
      exact ⟨by unfold zbq; rw [HS.out, HH.out]; rfl, rfl⟩
    simp only [Bool.not_eq_true] at h2
    rw [h2] at hht; have HH := H_ hht; clear hht; unfold klt at h1; unfold keq at h2; go_wp2; rw [Exit.noGoto_ret]
    go_ret2
    exact ⟨by unfold zbq; rw [HS.out, HH.out]; rfl, rfl⟩
def zck (r : Int × Bool) : Value := .tuple #[.int .i64 r.1, .bool r.2]
open Go Go.RowKit
section
variable {F : Fence} {n : Nat} {P : Program} {ops : Array Oper} {md : Region.Mode} {w : World}
theorem zhg (hfn : ∀ f, F.fn f) (hdep : F.depth = none) (hF : ∀ (f : FuncId) (args : Array Value) (w : World) (R : Ending → World → Prop), Calls P f args w R → CallsIn F (n - 1) P f args w R)
 {o : Oper} {a : Act} {K : Act → Prop} {K' : Act → World → Prop} {Q' : Exit → Act → World → Prop} (h : ∀ a, K a → K' a w) (hh : o.still P a w K) : o.wpIn F n P a w K' Q' := by
 refine ⟨fun f _ => hfn f, ?_⟩
 have hnd : ∀ c, o.op ≠ .defer c := by
  intro c hc; unfold Oper.still at hh
  have : ∀ (c : Call) (t : TypeId), ∀ r, ((execOp a.eval o).run P w) = r → o.op = .defer c → (∃ d w', r = .ok (.defer d) w') ∨ (∃ x w', r = .halt x w') := by
   intro c t r hr ho; unfold execOp at hr; rw [ho] at hr; simp only at hr; subst hr; generalize hs : (resolve a.eval c o.type).run P w = s
   cases s with
   | ok d w' => left; refine ⟨d, w', ?_⟩; simp [hs]
   | halt x w' => right; refine ⟨x, w', ?_⟩; simp [hs]
  rcases this c 0 _ rfl hc with ⟨d, w', e⟩ | ⟨x, w', e⟩ <;> rw [e] at hh <;> simp only [Oper.stillUpon] at hh
 rw [Oper.semAt_eq _ _ _ hnd]; unfold Oper.still at hh; generalize (execOp a.eval o).run P w = r at *
 cases r with
 | ok x w' =>
   cases x <;> simp only [Oper.stillUpon] at hh <;> simp only [Oper.uponIn]
   case enter f args =>
    obtain ⟨rfl, v, hc, hn⟩ := hh; exact ⟨(fun hd => by rw [hdep] at hd; cases hd), (hF _ _ _ _ hc).mono fun e w'' ⟨he, hw⟩ => by subst he; subst hw; exact h _ hn⟩
   all_goals (obtain ⟨rfl, h2⟩ := hh; exact h _ h2)
 | halt x w' => simp only [Oper.stillUpon] at hh
theorem zio (hfn : ∀ f, F.fn f) (hdep : F.depth = none) (hF : ∀ (f : FuncId) (args : Array Value) (w : World) (R : Ending → World → Prop), Calls P f args w R → CallsIn F (n - 1) P f args w R)
 {i : Nat} {a : Act} {K : Act → Prop} {K' : Act → World → Prop} {Q' : Exit → Act → World → Prop} (h : ∀ a, K a → K' a w) (hh : stOp P ops w i K a) : wpOpIn F n P ops Q' i K' a w := by
 unfold stOp at hh; unfold wpOpIn
 split
 · rename_i ho; simp only [ho] at hh; exact h _ hh
 rename_i o ho
 simp only [ho] at hh
 split
 · rename_i hw; simp only [hw, if_true] at hh; exact zhg hfn hdep hF h hh
 rename_i hw; simp only [hw] at hh; exact ⟨fun f _ => hfn f, h _ hh⟩
theorem zek (hfn : ∀ f, F.fn f) (hdep : F.depth = none) (hF : ∀ (f : FuncId) (args : Array Value) (w : World) (R : Ending → World → Prop), Calls P f args w R → CallsIn F (n - 1) P f args w R)
 {m g : Nat} {L : Array Bool → Act → Prop} {Q' : Exit → Act → World → Prop} (hL : ∀ listed a, L listed a → wpAnyIn F n P md ops Q' g listed a w) :
 ∀ (f : Nat) (listed : Array Bool) (a : Act), wpAnyL P md ops w m L f listed a → wpAnyIn F n P md ops Q' (f + g) listed a w
 | 0, listed, a, h => by rw [Nat.zero_add]; exact hL _ _ h
 | f + 1, listed, a, h => by
   rw [show f + 1 + g = (f + g) + 1 by omega]; exact ⟨fun h0 => absurd h0 h.1, fun i hi => zio hfn hdep hF (fun a' h' => zek hfn hdep hF hL f _ a' h') (h.2 i hi).2⟩
theorem zfi {Q' : Exit → Act → World → Prop} : ∀ (l : List Oper) (k : Nat) (listed : Array Bool) (a : Act) (w : World), (∀ j : Nat, l[j]? = ops[k + j]?) →
 Region.seqB md ops l.length k listed = true → wpListIn F n P ops Q' l a w → wpAnyIn F n P md ops Q' l.length listed a w
 | [], _, _, _, _, _, hB, h => ⟨by simpa [Region.seqB] using hB, h⟩
 | o :: l, k, listed, a, w, hl, hB, h => by
   have h0 : ops[k]? = some o := (by simpa using (hl 0).symm); simp only [List.length_cons, Region.seqB, Bool.and_eq_true, decide_eq_true_eq] at hB; refine ⟨fun h1 => (by rw [hB.1] at h1; cases h1), fun i hi => ?_⟩; rw [hB.1] at hi; have hik : i = k := (by simpa using hi); subst hik; have hw : wpOpIn F n P ops Q' i (wpListIn F n P ops Q' l) a w := (by unfold wpOpIn; simp only [h0]; exact h); exact wpOpIn_mono (fun a' w' h' => zfi l (i + 1) _ a' w' (fun j => by have := hl (j + 1); simpa [Nat.add_assoc, Nat.add_comm 1 j] using this) hB.2 h') hw
theorem zce {id : Nat} {Q : Exit → Act → World → Prop} {a : Act} {w : World} {l : List Oper} (m : Nat) (hfn : ∀ f, F.fn f) (hdep : F.depth = none)
 (hF : ∀ (f : FuncId) (args : Array Value) (w : World) (R : Ending → World → Prop), Calls P f args w R → CallsIn F (n - 1) P f args w R) (hm : P.follows .mixedOrders = true) (hB : Region.lexTailB .any l.toArray m = true)
 (h : wpStill P l.toArray w.drew (fun a' => wpListIn F n P l.toArray Q (l.drop m) a' w.drew) (l.take m) a) : (Code.region id l.toArray true).wpIn F n P Q a w := by
 simp only [Region.lexTailB, Bool.and_eq_true, decide_eq_true_eq] at hB; obtain ⟨⟨⟨⟨hsel, hn⟩, hs⟩, hc⟩, hlex⟩ := hB; have hn' : m < l.length := by simpa using hn
 have htl : (l.take m).length = m := by simp; omega
 have hdl : (l.drop m).length = l.toArray.size - m := by simp
 have inv0 : HeadInv .any l.toArray m (Array.replicate l.toArray.size false) :=
  ⟨by simp, fun j oj _ hl => (by rw [getD_replicate_false] at hl; cases hl), fun t _ ht => getD_in (by simpa using ht) (getD_replicate_false _ _)⟩
 have H := wpAnyL_lex (md := .any) (g := l.toArray.size - m) hsel hs hc hn (l.take m) 0 _ a (fun j hj => by
  have hj' : j < m := (by rw [htl] at hj; exact hj); simp [hj']) (by simpa using htl) inv0 (by rw [htl]; exact hlex) h
 refine wpIn_region_any hm ?_
 have := zek hfn hdep hF (Q' := Q) (g := l.toArray.size - m) (fun listed a' hL => by
  have := zfi (F := F) (n := n) (P := P) (md := .any) (Q' := Q) (l.drop m) m listed a' w.drew (fun j => by simp [List.getElem?_drop]) (by rw [hdl]; exact hL.1) hL.2
  rwa [hdl] at this) _ _ _ H
 rw [htl, show m + (l.toArray.size - m) = l.toArray.size by omega] at this; exact this
end
theorem zix {n : Nat} {P : Program} (l : Nat) (f : FuncId) (args : Array Value) (w : World) (R : Ending → World → Prop) (h : Calls P f args w R) : CallsIn (Fence.wide.inRound l) n P f args w R :=
 CallsIn.inRound l (callsIn_wide.2 h)
theorem zdf {α : Type} {f : α → List Value} {F : Fence} {n : Nat} {P : Program} {w : World} {ops : Array Oper} {rest : List Oper} {o : Oper} {a : Act} {Q : Exit → Act → World → Prop} (hgd : o.guard = none) (s x : Operand) (t : TypeId)
 (ho : o.op = .call { callee := .builtin .append, args := #[s, x], argTypes := #[t, t] })
 (e : TypeId) (i : TypeInfo) (z : Value) (sz bytes : Nat) (ht : P.underlying t = some (.slice e)) (hi : P.info? e = some i) (hz : i.zero = some z) (hsize : i.size = sz) (hby : i.bytes = bytes) (hzs : z.cells.size = sz) (hsz : 0 < sz)
 (v : Value) (L : List α) (hs : a.eval s = v) (hown : SlF w e sz f v L)
 (b c : Nat) (y : α) (hx : a.eval x = .slice (some ⟨b, 0, none⟩) 1 c) (hnews : ∀ j u, (f y)[j]? = some u → w.cell? ((⟨b, 0, none⟩ : Addr).add j) = some u) (hl : (f y).length = sz) (h1 : ∀ u ∈ f y, u.oneCell' = true)
 (h63 : L.length + 1 ≤ maxLen) (hbytes : (L.length + 1) * bytes ≤ 140737488355328)
 (h : ∀ g o' cap w', SlF w' e sz f (.slice (some ⟨g, o', none⟩) (L.length + 1) cap) (L ++ [y]) → w.grownBy w' v.ownBlock → (v.ownBlock = some g ∨ g = w.heap.size) → g < w'.heap.size →
   wpListIn F n P ops Q rest (a.put o.dst (.slice (some ⟨g, o', none⟩) (L.length + 1) cap)) w') : wpListIn F n P ops Q (o :: rest) a w := by
 subst hsize; subst hby; refine wpListIn_plain hgd fun K hK' => ?_; obtain ⟨g, o', cap, w', hrun, h2, h3, h4, h5⟩ := zcq (P := P) w t o.type e i z ht hi hz hzs hsz v L.length (L.flatMap f) hown ⟨b, 0, none⟩ 1 c (f y) (by omega) (by omega) hnews h1 h63 hbytes; unfold Oper.wpIn; refine ⟨?_, ?_⟩
 · simp [Oper.about, ho, resolve, Target.leads, Sem.run_pure]
 rw [Oper.semAt_plain F _ _ (by rw [ho]; intro c hc'; cases hc')]
 simp [execOp, ho, resolve, invoke, builtin, hs, hx, hrun, Result.andThen]; refine hK' _ _ (h g o' cap w' ?_ h3 h4 h5); unfold SlF; simpa using h2
end Go.Proofs.YthljnnjpmdgkoaaGreat