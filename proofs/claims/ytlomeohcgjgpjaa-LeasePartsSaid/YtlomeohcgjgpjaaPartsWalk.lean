/- The statement LeaseParts's function returns true, whatever its arguments are. -/
import Derived.Test.YtlomeohcgjgpjaaObs
import Derived.Test.YtlomeohcgjgpjaaQcl
namespace Go.Proofs.Ytlomeohcgjgpjaa
open Go Go.Proofs Go.RowKit
set_option maxRecDepth 100000

theorem tick_at {n : Nat} (hn : n ≤ 1000) {w : World} {t : Nat} {R : List LV} {F : Nat → Prop} (h : Lea n w t R F) (k : Int) :
    Calls Try.prog 19 #[.pointer (some ⟨t, 0, none⟩), .int .i64 k] w fun e w' => ∃ (a : Option Addr) (c : Nat), e = .returned (.slice a (toldR R k).length c) ∧
      Hid (SlF w' 3 1 int1 (.slice a (toldR R k).length c) (toldR R k) ∧ (∀ b, (Value.slice a (toldR R k).length c).ownBlock = some b → w.heap.size ≤ b) ∧ ∃ F', Lea (n + 1) w' t (tickR R k) F' ∧ Fr F w w' ∧ (∀ b, F' b → F b ∨ w.heap.size ≤ b) ∧ ∀ b, (Value.slice a (toldR R k).length c).ownBlock = some b → ¬ F' b) :=
  (Tick_calls hn h k).mono fun _ _ h => tick_to h
theorem over_at {n : Nat} (hn : n ≤ 1000) {w : World} {t : Nat} {R : List LV} {F : Nat → Prop} (h : Lea n w t R F) :
    Calls Try.prog 21 #[.pointer (some ⟨t, 0, none⟩)] w fun e w' => ∃ (a : Option Addr) (c : Nat), e = .returned (.slice a (overR R).length c) ∧ Hid (SlR w' 1 int1 (.slice a (overR R).length c) (overR R) ∧ Fr No w w') := by
  refine (Over_calls hn h).mono ?_
  rintro e w' ⟨v, rfl, h1, h2, h3⟩
  obtain ⟨a, c, rfl, _⟩ := h1.shape
  exact ⟨a, c, rfl, Lib.hid ⟨h1.toR int1_len, h3⟩⟩
theorem cnt_take {l : List Int} {k : Nat} {y : Int} (hy : l[k]? = some y) (z : Int) : cntI (l.take (k + 1)) z = if y = z then cntI (l.take k) z + 1 else cntI (l.take k) z := by
  unfold cntI
  rw [List.take_add_one, hy, List.filter_append]
  by_cases h : y = z
  · rw [if_pos h]; simp [h]
  · rw [if_neg h]; simp [h]
theorem told_len {n : Nat} {R : List LV} (h : ROk n R) (k : Int) : (toldR R k).length ≤ n := by
  unfold toldR
  split
  · simp
  · rw [List.length_map]
    exact Nat.le_trans (List.length_filter_le _ _) h.len
set_option maxHeartbeats 8000000 in
theorem leaseParts_walk (w : World) (v : Value) (l : List LOp) (hv : SlR w 4 opC v l) (hok : OpsOk l) (a : Int) (_ha : (Lit.int .i64 a).wf = true) (b : Int) (_hb : (Lit.int .i64 b).wf = true) :
    Calls Try.prog 6 #[v, .int .i64 a, .int .i64 b] w fun e w' => e = .returned (.bool true) ∧ Fr No w w' := by
  obtain ⟨va, vc, rfl, _, _, _⟩ := hv.shape
  have hdn := fun W (hW : Fr No w W) => done_calls W _ l (hv.fr0 hW) hok
  clear hv hok _ha _hb
  by_cases hin : 0 ≤ a ∧ 0 ≤ b ∧ a ≤ 1099511627776 ∧ b ≤ 1099511627776
  · obtain ⟨ha0, hb0, ha1, hb1⟩ := hin
    have HDN := Lib.hid hdn
    clear hdn
    go_enter Try.func6, Try.ntmps6
    go_upto_region 3 with fail
    all_goals first | (exfalso; omega) | skip
    go_upto_region 4 with (go_at_call 10; (with_reducible refine (HDN.out _ (Fr.refl No w)).mono ?_); rintro e w2 ⟨t, F, rfl, hL2, hw2, hF2⟩)
    go_upto_region 5 with (go_at_call 10; (with_reducible refine (HDN.out _ hw2).mono ?_); rintro e w3 ⟨u, G, rfl, hM3, hf3, hG3⟩)
    have hok := hL2.ok
    generalize doneR l = R at *
    have hL3 := hL2.fr0 hf3
    have hw3 := hw2.trans0 hf3
    have hFG : ∀ k, G k → ¬ F k := fun k h1 h2 => by have := hG3 k h1; have := hL2.lt k h2; omega
    have hGl := hM3.lt
    have hGw : ∀ k, G k → w.heap.size ≤ k := fun k h => by have := hG3 k h; have := hw2.size; omega
    clear HDN hL2 hf3 hw2 hG3
    have htk := tick_at (by omega) hL3 a
    go_upto_region 6 with (go_at_call 19; (with_reducible refine htk.mono ?_); rintro e w4 ⟨ap, cp, rfl, H4⟩)
    obtain ⟨hp4, hpn4, F4, hL4, hf4, hF4, hpd4⟩ := H4.out
    have hw4 := frn hw3 hf4 hF2
    have hM4 := hM3.fr hf4 hFG
    have hFG4 : ∀ k, G k → ¬ F4 k := fun k h1 h2 => (hF4 k h2).elim (hFG k h1) fun h => by have := hGl k h1; omega
    have hFw4 : ∀ k, F4 k → w.heap.size ≤ k := fun k h => (hF4 k h).elim (hF2 k) fun h => by have := hw3.size; omega
    have hs34 := hf4.size
    clear H4 hL3 hM3 hf4 hF2 hF4 hFG htk
    have htk := tick_at (by omega) hL4 b
    go_upto_region 7 with (go_at_call 19; (with_reducible refine htk.mono ?_); rintro e w5 ⟨aq, cq, rfl, H5⟩)
    obtain ⟨hq5, hqn5, F5, hL5, hf5, hF5, hqd5⟩ := H5.out
    have hw5 := frn hw4 hf5 hFw4
    have hM5 := hM4.fr hf5 hFG4
    have hp5 := hp4.fr hf5 hpd4
    have hFG5 : ∀ k, G k → ¬ F5 k := fun k h1 h2 => (hF5 k h2).elim (hFG4 k h1) fun h => by have := hGl k h1; omega
    clear H5 hL4 hM4 hf5 hFw4 hF5 hFG4 htk hp4 hpd4
    have htk := tick_at (by omega) hM5 (a + b)
    have hwr : wrap64 (a + b) = a + b := by unfold wrap64; omega
    go_upto_region 8 with (go_at_call 19; (with_reducible refine htk.mono ?_); rintro e w6 ⟨ar, cr, rfl, H6⟩)
    obtain ⟨hr6, hrn6, G6, hM6, hf6, hG6, hrd6⟩ := H6.out
    have hG5 := hM5.lt
    have hw6 := frn hw5 hf6 hGw
    have hL6 := hL5.fr hf6 fun k h1 h2 => hFG5 k h2 h1
    have hp6 := hp5.fr hf6 fun k h1 h2 => by have := hpn4 k h1; have := hGl k h2; omega
    have hq6 := hq5.fr hf6 fun k h1 h2 => by have := hqn5 k h1; have := hGl k h2; omega
    have hpl := parts_length hok ha0 hb0
    have hrs := toldR_rise hok (a + b)
    have hpc := fun i (hi : i ∈ toldR R (a + b)) => parts_count hok ha0 hb0 hi
    have hrl := told_len hok (a + b)
    rw [← tick_parts hok ha0 hb0] at hM6
    generalize tickR (tickR R a) b = R' at *
    generalize toldR R a = lp at *
    generalize toldR (tickR R a) b = lq at *
    generalize toldR R (a + b) = lr at *
    obtain ⟨_, _, hve, hpc1, hpc2, hpc3⟩ := hp6.shape
    simp only [Value.slice.injEq, true_and] at hve
    obtain ⟨rfl, rfl⟩ := hve
    obtain ⟨_, _, hve, hqc1, hqc2, hqc3⟩ := hq6.shape
    simp only [Value.slice.injEq, true_and] at hve
    obtain ⟨rfl, rfl⟩ := hve
    obtain ⟨_, _, hve, hrc1, hrc2, hrc3⟩ := hr6.shape
    simp only [Value.slice.injEq, true_and] at hve
    obtain ⟨rfl, rfl⟩ := hve
    unfold maxLen at hpc2 hqc2 hrc2
    have HLX := Lib.hid fun W (hW : Fr No w6 W) => list_at (by omega) (hL6.fr0 hW)
    have HLY := Lib.hid fun W (hW : Fr No w6 W) => list_at (by omega) (hM6.fr0 hW)
    have HOX := Lib.hid fun W (hW : Fr No w6 W) => over_at (by omega) (hL6.fr0 hW)
    have HOY := Lib.hid fun W (hW : Fr No w6 W) => over_at (by omega) (hM6.fr0 hW)
    have HP := Lib.hid hp6
    have HQ := Lib.hid hq6
    have HR := Lib.hid hr6
    have HPA := Lib.hid hpc3
    have HQA := Lib.hid hqc3
    have HRA := Lib.hid hrc3
    have HPC := Lib.hid hpc
    have HRS := Lib.hid hrs
    have HW6 := Lib.hid hw6
    clear H6 hL5 hL6 hM5 hM6 hp5 hp6 hq5 hq6 hr6 hw5 hw6 hf6 hok hpc3 hqc3 hrc3 hpc hrs htk hpn4 hqn5 hrn6 hrd6 hqd5 hG6 hG5 hFG5 hGl hGw
    go_cut [69] (fun s69 wx => s69 = .bool false ∧ Hid (Fr No w6 wx))
    case first =>
      go_wp2_with (first
        | (go_at_call 11; (with_reducible refine (HLX.out _ (Fr.refl No w6)).mono ?_); rintro e w7 ⟨a7, c7, rfl, H7⟩
           obtain ⟨P7, hp7, hl7, hf7⟩ := H7.out
           have HF7 := Lib.hid hf7)
        | (go_at_call 11; (with_reducible refine (HLY.out _ HF7.out).mono ?_); rintro e w8 ⟨a8, c8, rfl, H8⟩
           obtain ⟨P8, hp8, hl8, hf8⟩ := H8.out
           have HC := Lib.hid (same_at (hl7.fr0 hf8) hl8 hp7 hp8)
           have HF8 := Lib.hid (HF7.out.trans0 hf8))
        | (go_at_call 13; (with_reducible refine HC.out.mono ?_); rintro e w9 ⟨rfl, hf9⟩; have HF9 := Lib.hid (HF8.out.trans0 hf9))
        | (go_at_call 21; (with_reducible refine (HOX.out _ HF9.out).mono ?_); rintro e w10 ⟨a10, c10, rfl, H10⟩
           have HF10 := Lib.hid (HF9.out.trans0 H10.out.2))
        | (go_at_call 21; (with_reducible refine (HOY.out _ HF10.out).mono ?_); rintro e w11 ⟨a11, c11, rfl, H11⟩
           have HC2 := Lib.hid (nums_calls w11 _ _ _ (H10.out.1.fr0 H11.out.2) H11.out.1)
           have HF11 := Lib.hid (HF10.out.trans0 H11.out.2))
        | (go_at_call 20; (with_reducible refine HC2.out.mono ?_); rintro e w12 ⟨rfl, hf12⟩))
      all_goals first | (exfalso; omega) | skip
      go_meet
      case rel => exact ⟨rfl, Lib.hid (HF11.out.trans0 hf12)⟩
    case rest =>
      obtain ⟨rfl, HX⟩ := hcut
      clear HLX HLY HOX HOY
      have hHX := HX.out
      have HP := Lib.hid (HP.out.fr0 hHX)
      have HQ := Lib.hid (HQ.out.fr0 hHX)
      have HR := Lib.hid (HR.out.fr0 hHX)
      have HWX := Lib.hid (HW6.out.trans0 hHX)
      clear hHX HX
      go_upto_region 11 with fail
      go_loopg [12] lr.length (fun g s12 wr => ∃ i : Nat, s12 = .int .i64 i ∧ i + g = lr.length ∧ Hid (Fr No wc wr))
      case atStart => exact ⟨0, rfl, by omega, Lib.hid (Fr.refl No wc)⟩
      case round =>
        obtain ⟨i, rfl, hi, HF⟩ := hrel
        cases gk with
        | zero =>
          have hil : ¬ (i : Int) < (lr.length : Int) := by omega
          go_wp2_with (go_at_call 14; (with_reducible refine (awake_calls _).mono ?_); rintro e w9 ⟨rfl, hf9⟩)
          go_ret
          exact ⟨rfl, (HWX.out.trans0 HF.out).trans0 hf9⟩
        | succ g =>
          have hil : (i : Int) < (lr.length : Int) := by omega
          obtain ⟨z, hz⟩ : ∃ z, lr[i]? = some z := ⟨_, List.getElem?_eq_getElem (by omega)⟩
          obtain ⟨gr, orr, rfl⟩ := HRA.out (by omega)
          have hzc := HPC.out z (List.mem_of_getElem? hz)
          have hprev : 0 < i → ∃ y, lr[i - 1]? = some y ∧ y < z := fun h0 => by
            refine ⟨_, List.getElem?_eq_getElem (by omega), ?_⟩
            have := List.pairwise_iff_getElem.1 HRS.out (i - 1) i (by omega) (by omega) (by omega)
            rw [(List.getElem?_eq_some_iff.1 hz).2] at this
            exact this
          have hrc : ∀ W, Fr No wc W → W.cell? ⟨gr, orr + i, none⟩ = some (.int .i64 z) := fun W hW => by
            have := (HR.out.fr0 hW).cell0 int1_len i hz rfl
            simpa only [Nat.mul_one] using this
          have HRC := Lib.hid hrc
          have HPV := Lib.hid hprev
          have HZ := Lib.hid hz
          clear hprev hrc hz
          go_upto_region 15 with fail
          go_loopg [13, 14] lp.length (fun gg s13 s14 wq => ∃ k : Nat, s13 = .int .i64 (cntI (lp.take k) z : Nat) ∧ s14 = .int .i64 k ∧ k + gg = lp.length ∧ Hid (Fr No wc wq))
          case atStart => exact ⟨0, rfl, rfl, by omega, HF⟩
          case round =>
            obtain ⟨k, rfl, rfl, hk, HK⟩ := hrel
            cases gk with
            | succ g2 =>
              have hkl : (k : Int) < (lp.length : Int) := by omega
              obtain ⟨y, hy⟩ : ∃ y, lp[k]? = some y := ⟨_, List.getElem?_eq_getElem (by omega)⟩
              obtain ⟨gp, op, rfl⟩ := HPA.out (by omega)
              have f0 := (HP.out.fr0 HK.out).cell0 int1_len k hy rfl
              have q0 := HRC.out _ HK.out
              simp only [Nat.mul_one] at f0
              have hct := cnt_take hy z
              have hcb : cntI (lp.take k) z ≤ 200 := by
                unfold cntI
                have h1 := List.length_filter_le (fun x => x == z) (lp.take k)
                have h2 := List.length_take_le k lp
                omega
              generalize cntI (lp.take k) z = ct at *
              have HCT := Lib.hid hct
              have HKD := Lib.hid HK.out.drew
              clear hy hct
              go_upto_region 17 with fail
              go_region
              all_goals
                by_cases hyz : y = z
                · have hc1 := HCT.out
                  rw [if_pos hyz] at hc1
                  go_wp2
                  go_roundg g2
                  case rel => exact ⟨k + 1, by rw [hc1]; go_num, by go_num, by omega, HKD⟩
                  case measure => omega
                · have hc1 := HCT.out
                  rw [if_neg hyz] at hc1
                  go_wp2
                  go_roundg g2
                  case rel => exact ⟨k + 1, by rw [hc1], by go_num, by omega, HKD⟩
                  case measure => omega
            | zero =>
              have hkl : ¬ (k : Int) < (lp.length : Int) := by omega
              rw [List.take_of_length_le (by omega)]
              generalize cntI lp z = c0 at *
              go_upto_region 20 with fail
              go_loopg [13, 15] lq.length (fun gg s13 s15 wq => ∃ m : Nat, s13 = .int .i64 (c0 + cntI (lq.take m) z : Nat) ∧ s15 = .int .i64 m ∧ m + gg = lq.length ∧ Hid (Fr No wc wq))
              case atStart => exact ⟨0, rfl, rfl, by omega, HK⟩
              case round =>
                obtain ⟨m, rfl, rfl, hm, HM⟩ := hrel
                cases gk with
                | succ g3 =>
                  have hml : (m : Int) < (lq.length : Int) := by omega
                  obtain ⟨y, hy⟩ : ∃ y, lq[m]? = some y := ⟨_, List.getElem?_eq_getElem (by omega)⟩
                  obtain ⟨gq, oq, rfl⟩ := HQA.out (by omega)
                  have f0 := (HQ.out.fr0 HM.out).cell0 int1_len m hy rfl
                  have q0 := HRC.out _ HM.out
                  simp only [Nat.mul_one] at f0
                  have hct := cnt_take hy z
                  have hcb : cntI (lq.take m) z ≤ 200 := by
                    unfold cntI
                    have h1 := List.length_filter_le (fun x => x == z) (lq.take m)
                    have h2 := List.length_take_le m lq
                    omega
                  have hc0 : c0 ≤ 1 := by omega
                  generalize cntI (lq.take m) z = ct at *
                  have HCT := Lib.hid hct
                  have HMD := Lib.hid HM.out.drew
                  clear hy hct
                  go_upto_region 22 with fail
                  go_region
                  all_goals
                    by_cases hyz : y = z
                    · have hc1 := HCT.out
                      rw [if_pos hyz] at hc1
                      go_wp2
                      go_roundg g3
                      case rel => exact ⟨m + 1, by rw [hc1]; go_num, by go_num, by omega, HMD⟩
                      case measure => omega
                    · have hc1 := HCT.out
                      rw [if_neg hyz] at hc1
                      go_wp2
                      go_roundg g3
                      case rel => exact ⟨m + 1, by rw [hc1], by go_num, by omega, HMD⟩
                      case measure => omega
                | zero =>
                  have hml : ¬ (m : Int) < (lq.length : Int) := by omega
                  rw [List.take_of_length_le (by omega), hzc]
                  have q0 := HRC.out _ HM.out
                  have HMD := Lib.hid HM.out.drew
                  go_upto_region 24 with fail
                  by_cases hi0 : i = 0
                  · subst hi0
                    refine wp_region_class (C := fun W => Fr No wc W) (by kernel_rfl) (by kernel_rfl) (HM.out.drew) ?_
                    repeat (refine (wpQuiet_step (fun K hK => ?_) : _)
                            go_simp
                            first
                              | (refine hK _ ?_; clear hK K)
                              | (apply Exists.intro
                                 refine ⟨fun W hW => ?_, hK _ ?_⟩
                                 (first
                                   | exact rfl
                                   | (have c0 := HRC.out W hW; go_simp; exact rfl)
                                 )
                                 clear hK K))
                    refine (wpQuiet_nil ?_ : _)
                    intro w9 hw9
                    go_wp2
                    go_roundg g
                    case rel => exact ⟨1, by go_num, by omega, Lib.hid hw9⟩
                    case measure => omega
                  · obtain ⟨i, rfl⟩ : ∃ i', i = i' + 1 := ⟨i - 1, by omega⟩
                    obtain ⟨y, hy, hyz⟩ := HPV.out (by omega)
                    rw [Nat.add_sub_cancel] at hy
                    have hrd : ∀ W, Fr No wc W → W.cell? ⟨gr, orr + i, none⟩ = some (.int .i64 y) := fun W hW => by
                      have := (HR.out.fr0 hW).cell0 int1_len i hy rfl
                      simpa only [Nat.mul_one] using this
                    have hRD := Lib.hid hrd
                    clear hy hrd
                    have hwi : IntKind.i64.wrap (i : Int) = (i : Int) := by rw [IntKind.wrap_i64]; omega
                    have hil1 : 0 ≤ (i : Int) + 1 := by omega
                    have hil2 : (i : Int) + 1 < (lr.length : Int) := by omega
                    have hil3 : (i : Int) < (lr.length : Int) := by omega
                    refine wp_region_class (C := fun W => Fr No wc W) (by kernel_rfl) (by kernel_rfl) (HM.out.drew) ?_
                    repeat (refine (wpQuiet_step (fun K hK => ?_) : _)
                            go_simp
                            first
                              | (refine hK _ ?_; clear hK K)
                              | (apply Exists.intro
                                 refine ⟨fun W hW => ?_, hK _ ?_⟩
                                 (first
                                   | exact rfl
                                   | (have c0 := HRC.out W hW; have c1 := hRD.out W hW; go_simp; exact rfl)
                                 )
                                 clear hK K))
                    refine (wpQuiet_nil ?_ : _)
                    intro w9 hw9
                    trace_state
                    go_wp2
                    go_roundg g
                    case rel => exact ⟨i + 1 + 1, by go_num, by omega, Lib.hid hw9⟩
                    case measure => omega
  · go_enter Try.func6, Try.ntmps6
    go_wp2_with (go_at_call 14; (with_reducible refine (awake_calls _).mono ?_); rintro e w9 ⟨rfl, hf9⟩)
    all_goals first | (exfalso; omega) | skip
    all_goals
      go_ret
      exact ⟨rfl, hf9⟩
end Go.Proofs.Ytlomeohcgjgpjaa
