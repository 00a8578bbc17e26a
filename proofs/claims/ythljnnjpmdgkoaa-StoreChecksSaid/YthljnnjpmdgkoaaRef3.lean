/- The document's answer on ops and transactions is the program's: chanceryref11's Check, chanceryref12's Check. The condition: keys are not too long. -/
import Derived.Test.YthljnnjpmdgkoaaRef2
import Derived.Deep.CutBlock
import Derived.Deep.RegionHeld3
namespace Go.Proofs.Ythljnnjpmdgkoaa
open Go Go.Proofs Go.RowKit
set_option maxRecDepth 100000

theorem any_other {l : List Opr} {P : Opr → Bool} {i : Nat} (hi : i < l.length) : ((l.take i).any P || (l.drop (i + 1)).any P) = true ↔ ∃ (k : Nat) (p : Opr), k ≠ i ∧ l[k]? = some p ∧ P p = true := by
  rw [Bool.or_eq_true, List.any_eq_true, List.any_eq_true]
  constructor
  · rintro (⟨x, hx, h⟩ | ⟨x, hx, h⟩)
    · obtain ⟨k, hk⟩ := List.mem_iff_getElem?.1 hx
      have hlt := (List.getElem?_eq_some_iff.1 hk).1
      rw [List.length_take] at hlt
      rw [List.getElem?_take_of_lt (by omega)] at hk
      exact ⟨k, x, by omega, hk, h⟩
    · obtain ⟨k, hk⟩ := List.mem_iff_getElem?.1 hx
      rw [List.getElem?_drop] at hk
      exact ⟨i + 1 + k, x, by omega, hk, h⟩
  · rintro ⟨k, p, hki, hk, h⟩
    by_cases hlt : k < i
    · exact .inl ⟨p, List.mem_of_getElem? (i := k) (by rw [List.getElem?_take_of_lt hlt]; exact hk), h⟩
    · refine .inr ⟨p, List.mem_of_getElem? (i := k - (i + 1)) ?_, h⟩
      rw [List.getElem?_drop, show i + 1 + (k - (i + 1)) = k by omega]
      exact hk

theorem twiceAt_iff {l : List Opr} {i : Nat} {o : Opr} (ho : l[i]? = some o) : twiceAt l i = true ↔ o.kind = 1 ∧ ∃ (k : Nat) (p : Opr), k ≠ i ∧ l[k]? = some p ∧ clash o p = true := by
  have hi := (List.getElem?_eq_some_iff.1 ho).1
  unfold twiceAt
  rw [ho]
  show (o.kind == 1 && ((l.take i).any (clash o) || (l.drop (i + 1)).any (clash o))) = true ↔ _
  rw [Bool.and_eq_true, beq_iff_eq, any_other hi]

theorem refIn_same (w : World) (key frm end_ : ByteArray) : Calls Try.prog 57 #[.string key, .string frm, .string end_] w fun e w' => e = .returned (.bool (inB key frm end_)) ∧ w' = w :=
  (refIn_calls w key frm end_).mono fun _ _ ⟨h, h'⟩ => ⟨h, h'.symm⟩

set_option maxHeartbeats 8000000 in
theorem refCheck_calls (w : World) (v : Value) (l : List Opr) (hv : SlR w 10 opC v l) (hl : l.length ≤ 1099511627) (hks : ∀ o ∈ l, o.rg.key.size ≤ 1099511627776) :
    Calls Try.prog 21 #[v] w fun e w' => e = .returned (.int .i64 (checkE l)) ∧ Fr No w w' := by
  obtain ⟨a, cap, rfl, hc1, hc2, ha⟩ := hv.shape
  have HV := Lib.hid hv; clear hv
  have HA := Lib.hid ha; clear ha
  have HKS := Lib.hid hks; clear hks
  by_cases h16 : 16 < l.length
  · have h16' : (16 : Int) < (l.length : Int) := by omega
    have hE : checkE l = 31 := by unfold checkE; rw [if_pos h16]
    rw [hE]
    go_enter Try.func21, Try.ntmps21
    go_wp2
    go_ret
    exact ⟨rfl, Fr.refl No w⟩
  · have h16' : ¬ (16 : Int) < (l.length : Int) := by omega
    have hE : checkE l = match l.find? fun o => oneE o != 0 with
      | some o => oneE o
      | none => if twice l then 34 else 0 := by unfold checkE; rw [if_neg h16]; rfl
    have HE := Lib.hid hE; clear hE
    go_enter Try.func21, Try.ntmps21
    go_wp2
    go_loopg [3] l.length (fun g s3 wr => ∃ i : Nat, s3 = .int .i64 i ∧ i + g = l.length ∧ Hid (∀ j, j < i → ∀ p, l[j]? = some p → oneE p = 0) ∧ Hid (Fr No w wr))
    case atStart => exact ⟨0, rfl, by simp, Lib.hid (by simp), Lib.hid (Fr.refl No w)⟩
    case round =>
      obtain ⟨i, rfl, hi, HJ, HF⟩ := hrel
      cases gk with
      | zero =>
        have hil : ¬ (i : Int) < (l.length : Int) := by omega
        have hE2 : checkE l = if twice l then 34 else 0 := by
          rw [HE.out]
          have : l.find? (fun o => oneE o != 0) = none := by
            rw [List.find?_eq_none]
            intro x hx
            obtain ⟨j, hj, rfl⟩ := List.getElem_of_mem hx
            have := HJ.out j (by omega) _ (List.getElem?_eq_getElem hj)
            simp [this]
          rw [this]
        have HE2 := Lib.hid hE2; clear hE2
        have HFA := HF
        clear HJ HE HF
        go_wp2
        go_loopg [6] l.length (fun g s6 wr2 => ∃ i : Nat, s6 = .int .i64 i ∧ i + g = l.length ∧ Hid (∀ j, j < i → twiceAt l j = false) ∧ Hid (Fr No w wr2))
        case atStart => exact ⟨0, rfl, by simp, Lib.hid (by simp), HFA⟩
        clear HFA
        case round =>
          obtain ⟨i, rfl, hi, HJ, HFA⟩ := hrel
          cases gk with
          | zero =>
            have hil : ¬ (i : Int) < (l.length : Int) := by omega
            have hE3 : checkE l = 0 := by
              rw [HE2.out]
              have : twice l = false := by
                unfold twice
                rw [List.any_eq_false]
                intro j hj
                simp at hj
                simpa using HJ.out j (by omega)
              rw [this]; rfl
            have HE3 := Lib.hid hE3; clear hE3
            go_wp2
            go_ret
            exact ⟨by rw [HE3.out]; rfl, HFA.out⟩
          | succ g =>
            obtain ⟨gb, go, rfl⟩ := HA.out (by omega)
            obtain ⟨o, ho⟩ : ∃ o, l[i]? = some o := ⟨_, List.getElem?_eq_getElem (by omega)⟩
            have hil : (i : Int) < (l.length : Int) := by omega
            have HO := Lib.hid ho
            clear ho
            go_wp2
            go_loopg [7] l.length (fun g2 s7 wr3 => ∃ k : Nat, s7 = .int .i64 k ∧ k + g2 = l.length ∧ Hid (o.kind = 1 → ∀ j, j < k → j ≠ i → ∀ p, l[j]? = some p → clash o p = false) ∧ Hid (Fr No w wr3))
            case atStart => exact ⟨0, rfl, by simp, Lib.hid (fun _ j hj => by omega), HFA⟩
            case round =>
              obtain ⟨k, rfl, hk, HJ2, HF3⟩ := hrel
              cases gk with
              | zero =>
                have hkl : ¬ (k : Int) < (l.length : Int) := by omega
                have hta : twiceAt l i = false := by
                  rw [Bool.eq_false_iff]
                  intro h
                  obtain ⟨h1, j, p, hji, hj, hcl⟩ := (twiceAt_iff HO.out).1 h
                  have hjl := (List.getElem?_eq_some_iff.1 hj).1
                  have := HJ2.out h1 j (by omega) hji p hj
                  rw [this] at hcl; cases hcl
                have HTA := Lib.hid hta; clear hta
                go_wp2
                go_roundg g
                case rel => exact ⟨i + 1, by go_num, by omega, Lib.hid (fun j hj => by
                  by_cases hji : j = i
                  · subst hji; exact HTA.out
                  · exact HJ.out j (by omega)), HF3⟩
                case measure => omega
              | succ g2 =>
                obtain ⟨q, hq⟩ : ∃ q, l[k]? = some q := ⟨_, List.getElem?_eq_getElem (by omega)⟩
                have hvr := HV.out.fr0 HF3.out
                have x0 := hvr.cell0 opC_length i HO.out rfl
                have x1 := hvr.cell opC_length i 1 HO.out rfl
                have y0 := hvr.cell0 opC_length k hq rfl
                have y1 := hvr.cell opC_length k 1 hq rfl
                have y2 := hvr.cell opC_length k 2 hq rfl
                clear hvr
                have hkl : (k : Int) < (l.length : Int) := by omega
                have HQ := Lib.hid hq
                clear hq
                by_cases t1 : i = k
                · subst t1
                  have t1' : ((i : Int) == (i : Int)) = true := by simp
                  go_wp2
                  go_roundg g2
                  case rel => exact ⟨i + 1, by go_num, by omega, Lib.hid (fun h j hj hji p hp => HJ2.out h j (by omega) hji p hp), HF3⟩
                  case measure => omega
                · have t1' : ((i : Int) == (k : Int)) = false := by rw [beq_eq_false_iff_ne]; omega
                  by_cases t2 : o.kind = 1
                  · have t2' : (o.kind == 1) = true := by simpa using t2
                    have t2'' : (o.kind != 1) = false := by simpa using t2
                    have hcl : clash o q = ((q.kind == 1 && q.rg.key.toList == o.rg.key.toList) || (q.kind == 2 && inB o.rg.key q.rg.key q.rg.end_)) := rfl
                    have htw : clash o q = true → checkE l = 34 := by
                      intro h
                      rw [HE2.out]
                      have : twice l = true := by
                        unfold twice
                        rw [List.any_eq_true]
                        exact ⟨i, by simp; omega, (twiceAt_iff HO.out).2 ⟨t2, k, q, fun e => t1 e.symm, HQ.out, h⟩⟩
                      rw [this]; rfl
                    have HCL := Lib.hid hcl
                    have HTW := Lib.hid htw
                    clear hcl htw
                    generalize hcc : clash o q = cc at *
                    have HCC := Lib.hid hcc
                    clear hcc
                    obtain ⟨q0, ⟨r1, r2, r3, r4, r5, r6, r7⟩, q2, q3⟩ := q
                    obtain ⟨o0, ⟨k1, k2, k3, k4, k5, k6, k7⟩, o2, o3⟩ := o
                    dsimp only at *
                    go_upto_region 28 with fail
                    go_cut [134] (fun s134 wx => s134 = .bool cc ∧ Hid (Fr No wr wx))
                    case first =>
                      clear HTW HJ2 HJ HE2 HA HV HF3
                      by_cases v1 : q0 = 1
                      · subst v1
                        cases v2 : (r1.toList == k1.toList)
                        · have hct : cc = false := by rw [HCL.out]; rw [v2]; rfl
                          have HIN : Hid True := Lib.hid trivial
                          have HCT := Lib.hid hct
                          clear hct
                          go_quiet (first | (go_at_call 57; refine Calls.quiet_of_same (HIN.out _)))
                          go_wp2
                          go_meet
                          case rel => exact ⟨by rw [HCT.out], Lib.hid (Fr.drewN No wr _)⟩
                        · have hct : cc = true := by rw [HCL.out]; rw [v2]; rfl
                          have HIN : Hid True := Lib.hid trivial
                          have HCT := Lib.hid hct
                          clear hct
                          go_quiet (first | (go_at_call 57; refine Calls.quiet_of_same (HIN.out _)))
                          go_wp2
                          go_meet
                          case rel => exact ⟨by rw [HCT.out], Lib.hid (Fr.drewN No wr _)⟩
                      · have v1' : (q0 == 1) = false := by simpa using v1
                        by_cases v3 : q0 = 2
                        · subst v3
                          have hin := fun W => refIn_same W k1 r1 r2
                          cases v4 : inB k1 r1 r2
                          · have hct : cc = false := by rw [HCL.out]; rw [v4]; rfl
                            rw [v4] at hin
                            have HIN := Lib.hid hin
                            clear hin
                            have HCT := Lib.hid hct
                            clear hct
                            go_quiet (first | (go_at_call 57; refine Calls.quiet_of_same (HIN.out _)))
                            go_wp2
                            go_meet
                            case rel => exact ⟨by rw [HCT.out], Lib.hid (Fr.drewN No wr _)⟩
                          · have hct : cc = true := by rw [HCL.out]; rw [v4]; rfl
                            rw [v4] at hin
                            have HIN := Lib.hid hin
                            clear hin
                            have HCT := Lib.hid hct
                            clear hct
                            go_quiet (first | (go_at_call 57; refine Calls.quiet_of_same (HIN.out _)))
                            go_wp2
                            go_meet
                            case rel => exact ⟨by rw [HCT.out], Lib.hid (Fr.drewN No wr _)⟩
                        · have v3' : (q0 == 2) = false := by simpa using v3
                          have hct : cc = false := by rw [HCL.out]; rw [v1', v3']; rfl
                          have HIN : Hid True := Lib.hid trivial
                          have HCT := Lib.hid hct
                          clear hct
                          go_quiet (first | (go_at_call 57; refine Calls.quiet_of_same (HIN.out _)))
                          go_wp2
                          go_meet
                          case rel => exact ⟨by rw [HCT.out], Lib.hid (Fr.drewN No wr _)⟩
                    case rest =>
                      obtain ⟨rfl, HQF⟩ := hcut
                      cases cc
                      · clear HTW
                        go_wp2
                        go_roundg g2
                        case rel => exact ⟨k + 1, by go_num, by omega, Lib.hid (fun h j hj hji p hp => by
                          by_cases hjk : j = k
                          · subst hjk; rw [HQ.out] at hp; cases hp; exact HCC.out
                          · exact HJ2.out h j (by omega) hji p hp), Lib.hid (HF3.out.trans0 HQF.out)⟩
                        case measure => omega
                      · have E1 := Lib.hid (HTW.out rfl)
                        clear HTW
                        go_wp2
                        go_ret
                        exact ⟨by rw [E1.out]; rfl, HF3.out.trans0 HQF.out⟩
                  · have t2' : (o.kind == 1) = false := by simpa using t2
                    have t2'' : (o.kind != 1) = true := by simpa using t2
                    go_wp2
                    go_roundg g2
                    case rel => exact ⟨k + 1, by go_num, by omega, Lib.hid (fun h => absurd h t2), HF3⟩
                    case measure => omega
      | succ g =>
        obtain ⟨gb, go, rfl⟩ := HA.out (by omega)
        obtain ⟨p, hx⟩ : ∃ p, l[i]? = some p := ⟨_, List.getElem?_eq_getElem (by omega)⟩
        have hvr := HV.out.fr0 HF.out
        have x0 := hvr.cell0 opC_length i hx rfl
        have x1 := hvr.cell opC_length i 1 hx rfl
        have x2 := hvr.cell opC_length i 2 hx rfl
        have x3 := hvr.cell opC_length i 3 hx rfl
        have x4 := hvr.cell opC_length i 4 hx rfl
        have x5 := hvr.cell opC_length i 5 hx rfl
        have x6 := hvr.cell opC_length i 6 hx rfl
        have x7 := hvr.cell opC_length i 7 hx rfl
        have x8 := hvr.cell opC_length i 8 hx rfl
        have x9 := hvr.cell opC_length i 9 hx rfl
        have hil : (i : Int) < (l.length : Int) := by omega
        have Hx := Lib.hid hx
        have hkp := HKS.out p (List.mem_of_getElem? hx)
        have hkc := fun W => refKey_calls W p.rg.key hkp
        have hac := fun W => refAsks_calls W p.rg hkp
        have hbc := fun W => refAsks_calls W ⟨p.rg.key, p.rg.end_, 0, 0, false, false, false⟩ hkp
        have ho1 : oneE p = if p.kind = 3 then askE p.rg else if p.kind = 2 then askE ⟨p.rg.key, p.rg.end_, 0, 0, false, false, false⟩
            else if p.kind = 1 then (if keyE p.rg.key ≠ 0 then keyE p.rg.key else if 1024 < p.value.size then 31 else if 0 ≤ p.lease then 0 else 1) else 1 := rfl
        have hff : oneE p ≠ 0 → checkE l = oneE p := by
          intro hp
          rw [HE.out]
          have hf : l.find? (fun o => oneE o != 0) = some p := by
            rw [List.find?_eq_some_iff_getElem]
            have hil' : i < l.length := (List.getElem?_eq_some_iff.1 hx).1
            refine ⟨by simpa using hp, i, hil', (List.getElem?_eq_some_iff.1 hx).2, fun j hji => ?_⟩
            have := HJ.out j hji _ (List.getElem?_eq_getElem (by omega))
            simp [this]
          rw [hf]
        have HFF := Lib.hid hff
        clear hx hvr hff hkp
        generalize hop : oneE p = op at *
        have HOP := Lib.hid hop
        clear hop
        obtain ⟨p1, ⟨g1, g2, g3, g4, g5, g6, g7⟩, p2, p3⟩ := p
        unfold rgV at hac hbc
        dsimp only at *
        generalize keyE g1 = kk at *
        generalize askE ⟨g1, g2, g3, g4, g5, g6, g7⟩ = aa at *
        generalize askE ⟨g1, g2, 0, 0, false, false, false⟩ = bb at *
        have HKC := Lib.hid hkc; clear hkc
        have HAC := Lib.hid hac; clear hac
        have HBC := Lib.hid hbc; clear hbc
        have HO1 := Lib.hid ho1; clear ho1
        go_upto_block 2 with fail
        have hk0 : (wr.alloc (Obj.cells #[.int .i64 p1, .string g1, .string g2, .int .i64 g3, .int .i64 g4, .bool g5, .bool g6, .bool g7, .string p2, .int .i64 p3] 87)).heap[wr.heap.size]? = some (.cells #[.int .i64 p1, .string g1, .string g2, .int .i64 g3, .int .i64 g4, .bool g5, .bool g6, .bool g7, .string p2, .int .i64 p3] 87 (0, 0)) := alloc_at _ _ _ rfl
        have hf0 : Fr No w (wr.alloc (Obj.cells #[.int .i64 p1, .string g1, .string g2, .int .i64 g3, .int .i64 g4, .bool g5, .bool g6, .bool g7, .string p2, .int .i64 p3] 87)) := HF.out.alloc _
        generalize wr.alloc (Obj.cells #[.int .i64 p1, .string g1, .string g2, .int .i64 g3, .int .i64 g4, .bool g5, .bool g6, .bool g7, .string p2, .int .i64 p3] 87) = W0 at hk0 hf0 ⊢
        have z1 : W0.cell? ⟨wr.heap.size, 1, none⟩ = some (.string g1) := by simp [World.cell?, hk0]
        have z2 : W0.cell? ⟨wr.heap.size, 2, none⟩ = some (.string g2) := by simp [World.cell?, hk0]
        have z3 : W0.cell? ⟨wr.heap.size, 3, none⟩ = some (.int .i64 g3) := by simp [World.cell?, hk0]
        have z4 : W0.cell? ⟨wr.heap.size, 4, none⟩ = some (.int .i64 g4) := by simp [World.cell?, hk0]
        have z5 : W0.cell? ⟨wr.heap.size, 5, none⟩ = some (.bool g5) := by simp [World.cell?, hk0]
        have z6 : W0.cell? ⟨wr.heap.size, 6, none⟩ = some (.bool g6) := by simp [World.cell?, hk0]
        have z7 : W0.cell? ⟨wr.heap.size, 7, none⟩ = some (.bool g7) := by simp [World.cell?, hk0]
        have lz := heap_lt hk0
        clear x0 x1 x2 x3 x4 x5 x6 x7 x8 x9
        go_cut [5] (fun s5 wx => s5 = .int .i64 op ∧ Hid (Fr No w wx))
        case first =>
          by_cases t3 : p1 = 3
          · subst t3
            have e1 : op = aa := by rw [HO1.out, if_pos rfl]
            have E1 := Lib.hid e1; clear e1
            go_wp2_with (go_at_call 23; refine (HAC.out _).mono ?_; rintro e w1 ⟨rfl, hf1⟩)
            go_meet
            case rel => exact ⟨by rw [E1.out], Lib.hid (hf0.trans0 hf1)⟩
          · have t3' : (p1 == 3) = false := by simpa using t3
            by_cases t2 : p1 = 2
            · subst t2
              have e1 : op = bb := by rw [HO1.out, if_neg t3, if_pos rfl]
              have E1 := Lib.hid e1; clear e1
              clear t3 t3'
              go_wp2_with (go_at_call 23; refine (HBC.out _).mono ?_; rintro e w1 ⟨rfl, hf1⟩)
              go_meet
              case rel => exact ⟨by rw [E1.out], Lib.hid (hf0.trans0 hf1)⟩
            · have t2' : (p1 == 2) = false := by simpa using t2
              by_cases t1 : p1 = 1
              · subst t1
                have e1 : op = if kk ≠ 0 then kk else if 1024 < p2.size then 31 else if 0 ≤ p3 then 0 else 1 := by rw [HO1.out, if_neg t3, if_neg t2, if_pos rfl]
                have E1 := Lib.hid e1; clear e1
                clear t2 t2' t3 t3'
                by_cases u1 : kk ≠ 0
                · have u1' : (kk == 0) = false := by simpa using u1
                  have E2 : Hid (op = kk) := Lib.hid (by rw [E1.out, if_pos u1])
                  go_wp2_with (go_at_call 56; refine (HKC.out _).mono ?_; rintro e w1 ⟨rfl, hf1⟩; have hk1 := hf1.heap hk0 id; have y8 : w1.cell? ⟨wr.heap.size, 8, none⟩ = some (.string p2) := (by simp [World.cell?, hk1]); have y9 : w1.cell? ⟨wr.heap.size, 9, none⟩ = some (.int .i64 p3) := (by simp [World.cell?, hk1]))
                  go_meet
                  case rel => exact ⟨by rw [E2.out], Lib.hid (hf0.trans0 hf1)⟩
                · have u1' : kk = 0 := by simpa using u1
                  subst u1'
                  by_cases u2 : 1024 < p2.size
                  · have u2' : (1024 : Int) < (p2.size : Int) := by omega
                    have E2 : Hid (op = 31) := Lib.hid (by rw [E1.out, if_neg (by simp), if_pos u2])
                    go_wp2_with (go_at_call 56; refine (HKC.out _).mono ?_; rintro e w1 ⟨rfl, hf1⟩; have hk1 := hf1.heap hk0 id; have y8 : w1.cell? ⟨wr.heap.size, 8, none⟩ = some (.string p2) := (by simp [World.cell?, hk1]); have y9 : w1.cell? ⟨wr.heap.size, 9, none⟩ = some (.int .i64 p3) := (by simp [World.cell?, hk1]))
                    go_meet
                    case rel => exact ⟨by rw [E2.out], Lib.hid (hf0.trans0 hf1)⟩
                  · have u2' : ¬ (1024 : Int) < (p2.size : Int) := by omega
                    by_cases u3 : 0 ≤ p3
                    · have E2 : Hid (op = 0) := Lib.hid (by rw [E1.out, if_neg (by simp), if_neg u2, if_pos u3])
                      go_wp2_with (go_at_call 56; refine (HKC.out _).mono ?_; rintro e w1 ⟨rfl, hf1⟩; have hk1 := hf1.heap hk0 id; have y8 : w1.cell? ⟨wr.heap.size, 8, none⟩ = some (.string p2) := (by simp [World.cell?, hk1]); have y9 : w1.cell? ⟨wr.heap.size, 9, none⟩ = some (.int .i64 p3) := (by simp [World.cell?, hk1]))
                      go_meet
                      case rel => exact ⟨by rw [E2.out], Lib.hid (hf0.trans0 hf1)⟩
                    · have E2 : Hid (op = 1) := Lib.hid (by rw [E1.out, if_neg (by simp), if_neg u2, if_neg u3])
                      go_wp2_with (go_at_call 56; refine (HKC.out _).mono ?_; rintro e w1 ⟨rfl, hf1⟩; have hk1 := hf1.heap hk0 id; have y8 : w1.cell? ⟨wr.heap.size, 8, none⟩ = some (.string p2) := (by simp [World.cell?, hk1]); have y9 : w1.cell? ⟨wr.heap.size, 9, none⟩ = some (.int .i64 p3) := (by simp [World.cell?, hk1]))
                      go_meet
                      case rel => exact ⟨by rw [E2.out], Lib.hid (hf0.trans0 hf1)⟩
              · have t1' : (p1 == 1) = false := by simpa using t1
                have e1 : op = 1 := by rw [HO1.out, if_neg t3, if_neg t2, if_neg t1]
                have E1 := Lib.hid e1; clear e1
                go_wp2
                go_meet
                case rel => exact ⟨by rw [E1.out], Lib.hid hf0⟩
        case rest =>
          obtain ⟨rfl, HFc⟩ := hcut
          by_cases hop : op ≠ 0
          · have hop' : (op == 0) = false := by simpa using hop
            have E1 := Lib.hid (HFF.out hop)
            clear HFF
            go_wp2
            go_ret
            exact ⟨by rw [E1.out]; rfl, HFc.out⟩
          · have hop' : (op == 0) = true := by simpa using hop
            have hop0 : op = 0 := by simpa using hop
            have HOP0 := Lib.hid hop0
            clear HFF hop0
            go_wp2
            go_roundg g
            case rel => exact ⟨i + 1, by go_num, by omega, Lib.hid (fun j hj q hq => by
              by_cases hji : j = i
              · subst hji; rw [Hx.out] at hq; cases hq; rw [HOP.out, HOP0.out]
              · exact HJ.out j (by omega) q hq), HFc⟩
            case measure => omega
end Go.Proofs.Ythljnnjpmdgkoaa
