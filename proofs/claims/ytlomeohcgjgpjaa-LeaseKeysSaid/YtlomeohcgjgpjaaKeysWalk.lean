/- The statement LeaseKeys's function returns true, whatever its argument is. -/
import Derived.Test.YtlomeohcgjgpjaaObs
import Derived.Test.YtlomeohcgjgpjaaQcl
namespace Go.Proofs.Ytlomeohcgjgpjaa
open Go Go.Proofs Go.RowKit
set_option maxRecDepth 100000

set_option maxHeartbeats 8000000 in
theorem leaseKeys_walk (w : World) (v : Value) (l : List LOp) (hv : SlR w 4 opC v l) (hok : OpsOk l) :
    Calls Try.prog 4 #[v] w fun e w' => e = .returned (.bool true) ∧ Fr No w w' := by
  obtain ⟨va, vc, rfl, hv1, hv2, hv3⟩ := hv.shape
  have hdn := done_calls w _ l hv hok
  have HV := Lib.hid hv
  have HOK := Lib.hid hok
  have HV3 := Lib.hid hv3
  unfold maxLen at hv2
  clear hv hok hv3
  go_enter Try.func4, Try.ntmps4
  go_upto_region 2 with (go_at_call 10; (with_reducible refine hdn.mono ?_); rintro e w2 ⟨t, F, rfl, hL2, hw2, hF2⟩)
  have hR := hL2.ok
  generalize doneR l = R at *
  have hli := list_at (by omega) hL2
  clear hdn hF2
  go_upto_region 3 with (go_at_call 11; (with_reducible refine hli.mono ?_); rintro e w3 ⟨a3, c3, rfl, H3⟩)
  obtain ⟨P, hp, hl, hf3⟩ := H3.out
  have hL3 := hL2.fr0 hf3
  have hw3 := hw2.trans0 hf3
  have hpn : P.length = R.length := by rw [← hp, List.length_map]
  obtain ⟨_, _, hve, hc1, hc2, hc3⟩ := hl.sl.shape
  rw [hpn] at hve hc1 hc3
  simp only [Value.slice.injEq, true_and] at hve
  obtain ⟨rfl, rfl⟩ := hve
  unfold maxLen at hc2
  have hat : ∀ (i : Nat) (p : LV × Value), P[i]? = some p → p.1 ∈ R ∧ R[i]? = some p.1 := fun i p h => by
    have : R[i]? = some p.1 := by rw [← hp, List.getElem?_map, h]; rfl
    exact ⟨List.mem_of_getElem? this, this⟩
  have HAT := Lib.hid hat
  have HR := Lib.hid hR
  have HL := Lib.hid hL3
  have HW := Lib.hid hw3
  have HP := Lib.hid hl
  have HPA := Lib.hid hc3
  clear hli H3 hL2 hf3 hw2 hL3 hw3 hl hc3 hat hR hp
  go_upto_region 4 with fail
  go_loopg [5] R.length (fun g s5 wr => ∃ i : Nat, s5 = .int .i64 i ∧ i + g = R.length ∧ Hid (Fr No w3 wr))
  case atStart => exact ⟨0, rfl, by omega, Lib.hid (Fr.refl No w3)⟩
  case round =>
    obtain ⟨i, rfl, hi, HF⟩ := hrel
    cases gk with
    | zero =>
      have hil : ¬ (i : Int) < (R.length : Int) := by omega
      clear HPA
      go_upto_region 14 with fail
      go_loopg [7] l.length (fun gg s7 wq => ∃ k : Nat, s7 = .int .i64 k ∧ k + gg = l.length ∧ k ≤ 200 ∧ Hid (Fr No w3 wq))
      case atStart => exact ⟨0, rfl, by omega, by omega, HF⟩
      case round =>
        obtain ⟨k, rfl, hk, hk2, HK⟩ := hrel
        by_cases hend : k < l.length ∧ k < 200
        · obtain ⟨hkl, hk9⟩ := hend
          cases gk with
          | zero => omega
          | succ g =>
            have hkli : (k : Int) < (l.length : Int) := by omega
            have hk9i : (k : Int) < 200 := by omega
            obtain ⟨gv, ov, rfl⟩ := HV3.out (by omega)
            obtain ⟨o, ho⟩ : ∃ o, l[k]? = some o := ⟨_, List.getElem?_eq_getElem hkl⟩
            have how := HOK.out o (List.mem_of_getElem? ho)
            have hcv : ∀ W, Fr No w3 W → W.cell? ⟨gv, ov + k * 4 + 3, none⟩ = some (.string o.key) := fun W hW => ((HV.out.fr0 (HW.out.trans0 hW)).cells4 opC_length k ho rfl).2.2.2
            have HCV := Lib.hid hcv
            have HOW := Lib.hid how
            clear ho how hcv
            have c3 := HCV.out _ HK.out
            have hof := Of_at (HL.out.fr0 HK.out) o.key HOW.out.2.2.2
            by_cases h0 : ofR R o.key = 0
            · rw [h0] at hof
              go_wp2_with (go_at_call 15; (with_reducible refine hof.mono ?_); rintro e w9 ⟨rfl, rfl⟩)
              go_roundg g
              case rel => exact ⟨k + 1, by go_num, by omega, by omega, HK⟩
              case measure => omega
            · obtain ⟨x, hxm, hkx, hxe⟩ := ofR_some h0
              rw [hxe] at hof h0
              obtain ⟨n1, n2, _⟩ := HR.out.num _ hxm
              unfold maxI at n2
              have hwf : (Lit.int .i64 x.id).wf = true := by simp [Lit.wf, IntKind.min, IntKind.max, IntKind.signed, IntKind.bits]; omega
              have hgt := Get_some (by omega) (HL.out.fr0 HK.out) x.id hwf (HR.out.get hxm)
              unfold lvV at hgt
              have HKX := Lib.hid hkx
              clear hxm hkx hxe hwf
              go_upto_region 21 with (first
                | (go_at_call 15; (with_reducible refine hof.mono ?_); rintro e w9 ⟨rfl, rfl⟩)
                | (go_at_call 16; (with_reducible refine hgt.mono ?_); rintro e w9 ⟨xa, xc, rfl, H9⟩; dsimp only))
              rw [show (x.id == 0) = false from by simpa using h0]
              have hf9 := H9.out.2
              have hks := H9.out.1.1.alloc (.cells #[.int .i64 x.id, .int .i64 x.ticks, .int .i64 x.left, .slice xa x.keys.length xc] 36)
              have hb10 := alloc_at w9 (.cells #[.int .i64 x.id, .int .i64 x.ticks, .int .i64 x.left, .slice xa x.keys.length xc] 36) w9.heap.size rfl
              have hw10 := (HK.out.trans0 hf9).alloc (.cells #[.int .i64 x.id, .int .i64 x.ticks, .int .i64 x.left, .slice xa x.keys.length xc] 36)
              generalize w9.alloc (.cells #[.int .i64 x.id, .int .i64 x.ticks, .int .i64 x.left, .slice xa x.keys.length xc] 36) = w10 at *
              obtain ⟨_, _, hve, hx1, hx2, hx3⟩ := hks.shape
              simp only [Value.slice.injEq, true_and] at hve
              obtain ⟨rfl, rfl⟩ := hve
              unfold maxLen at hx2
              have HX3 := Lib.hid hx3
              have HKS := Lib.hid hks
              have HB10 := Lib.hid hb10
              have HW10 := Lib.hid hw10
              clear hgt hof H9 hf9 hks hb10 hw10 hx3 c3 h0 n1 n2
              generalize w9.heap.size = nb at *
              go_loopg [11, 12] x.keys.length (fun gg s11 s12 wq => ∃ (m : Nat) (b : Bool), s11 = .bool b ∧ s12 = .int .i64 m ∧ m + gg = x.keys.length ∧ Hid (b = true ↔ o.key ∈ x.keys.take m) ∧ Hid (Fr No w10 wq))
              case atStart => exact ⟨0, false, rfl, rfl, by omega, Lib.hid (by simp), Lib.hid (Fr.refl No w10)⟩
              case round =>
                obtain ⟨m, b, rfl, rfl, hm, HB, HM⟩ := hrel
                have hx := HM.out.heap HB10.out fun h => h
                obtain ⟨z0, z1, z2, z3⟩ := cells4 hx
                have lz := heap_lt hx
                clear hx
                cases gk with
                | zero =>
                  have hml : ¬ (m : Int) < (x.keys.length : Int) := by omega
                  have hb : b = true := HB.out.2 (by rw [List.take_of_length_le (by omega)]; exact HKX.out)
                  subst hb
                  go_wp2
                  go_roundg g
                  case rel => exact ⟨k + 1, by go_num, by omega, by omega, Lib.hid (HW10.out.trans0 HM.out)⟩
                  case measure => omega
                | succ g3 =>
                  have hml : (m : Int) < (x.keys.length : Int) := by omega
                  obtain ⟨y, hy⟩ : ∃ y, x.keys[m]? = some y := ⟨_, List.getElem?_eq_getElem (by omega)⟩
                  obtain ⟨gx, ox, rfl⟩ := HX3.out (by omega)
                  have hkc : ∀ W, Fr No w10 W → W.cell? ⟨gx, ox + m, none⟩ = some (.string y) := fun W hW => by
                    have := (HKS.out.fr0 hW).cell0 strC_len m hy rfl
                    simpa only [Nat.mul_one] using this
                  have hmt : x.keys.take (m + 1) = x.keys.take m ++ [y] := by rw [List.take_add_one, hy]; rfl
                  have HKC := Lib.hid hkc
                  have HMT := Lib.hid hmt
                  have hmn : m < x.keys.length := by omega
                  clear hkc hmt hy
                  go_upto_region 23 with fail
                  clear z0 z1 z2 z3 lz
                  cases b with
                  | true =>
                    as_aux_lemma =>
                      refine wp_region_class (C := fun W => Fr No w10 W) (by kernel_rfl) (by kernel_rfl) (HM.out.drew) ?_
                      repeat (refine (wpQuiet_step (fun K hK => ?_) : _)
                              go_simp
                              first
                                | (refine hK _ ?_; clear hK K)
                                | (apply Exists.intro
                                   refine ⟨fun W hW => ?_, hK _ ?_⟩
                                   (first
                                     | exact rfl
                                     | (obtain ⟨e0, e1, e2, e3⟩ := cells4 (hW.heap HB10.out fun h => h); have d0 := HKC.out W hW; have d1 := HCV.out W (HW10.out.trans0 hW); go_simp; exact rfl)
                                   )
                                   clear hK K))
                      refine (wpQuiet_nil ?_ : _)
                      intro w9 hw9
                      go_wp2
                      go_roundg g3
                      case rel => exact ⟨m + 1, true, rfl, by go_num, by omega, Lib.hid (by rw [HMT.out, List.mem_append]; exact ⟨fun _ => .inl (by first | exact HB.out.1 rfl | exact HB.out.1 trivial), fun _ => rfl⟩), Lib.hid hw9⟩
                      case measure => omega
                  | false =>
                    as_aux_lemma =>
                      refine wp_region_class (C := fun W => Fr No w10 W) (by kernel_rfl) (by kernel_rfl) (HM.out.drew) ?_
                      repeat (refine (wpQuiet_step (fun K hK => ?_) : _)
                              go_simp
                              first
                                | (refine hK _ ?_; clear hK K)
                                | (apply Exists.intro
                                   refine ⟨fun W hW => ?_, hK _ ?_⟩
                                   (first
                                     | exact rfl
                                     | (obtain ⟨e0, e1, e2, e3⟩ := cells4 (hW.heap HB10.out fun h => h); have d0 := HKC.out W hW; have d1 := HCV.out W (HW10.out.trans0 hW); go_simp; exact rfl)
                                   )
                                   clear hK K))
                      refine (wpQuiet_nil ?_ : _)
                      intro w9 hw9
                      go_wp2
                      go_roundg g3
                      case rel => exact ⟨m + 1, keq y o.key, by first | rfl | (unfold keq; rfl), by go_num, by omega, Lib.hid (by
                        have hn : ¬ o.key ∈ x.keys.take m := fun h => by have := HB.out.2 h; simp at this
                        rw [HMT.out, List.mem_append, List.mem_singleton, keq_iff]
                        exact ⟨fun h => .inr h.symm, fun h => h.elim (fun h => absurd h hn) fun h => h.symm⟩), Lib.hid hw9⟩
                      case measure => omega
        · by_cases hkl : k < l.length
          · have e9 : k = 200 := by omega
            subst e9
            go_wp2_with (go_at_call 14; (with_reducible refine (awake_calls _).mono ?_); rintro e w9 ⟨rfl, hf9⟩)
            all_goals first | (exfalso; omega) | skip
            go_ret
            exact ⟨rfl, (HW.out.trans0 HK.out).trans0 hf9⟩
          · have hkli : ¬ (k : Int) < (l.length : Int) := by omega
            go_wp2_with (go_at_call 14; (with_reducible refine (awake_calls _).mono ?_); rintro e w9 ⟨rfl, hf9⟩)
            all_goals first | (exfalso; omega) | skip
            go_ret
            exact ⟨rfl, (HW.out.trans0 HK.out).trans0 hf9⟩
    | succ g =>
      have hil : (i : Int) < (R.length : Int) := by omega
      obtain ⟨x, hx⟩ : ∃ x, P[i]? = some x := ⟨_, List.getElem?_eq_getElem (by omega)⟩
      obtain ⟨ga, oa, rfl⟩ := HPA.out (by omega)
      obtain ⟨hxm, hxi⟩ := HAT.out i x hx
      obtain ⟨n1, n2, n3, n4, n5, n6⟩ := HR.out.num _ hxm
      have hcl : ∀ W, Fr No w3 W → W.cell? ⟨ga, oa + i * 4, none⟩ = some (.int .i64 x.1.id) ∧ W.cell? ⟨ga, oa + i * 4 + 1, none⟩ = some (.int .i64 x.1.ticks) ∧ W.cell? ⟨ga, oa + i * 4 + 2, none⟩ = some (.int .i64 x.1.left) ∧ W.cell? ⟨ga, oa + i * 4 + 3, none⟩ = some x.2 := fun W hW => by
        have hsl := (HP.out.fr0 hW).sl
        rw [← hpn] at hsl
        exact hsl.cells4 lvC_length i hx rfl
      have HX := Lib.hid hx
      obtain ⟨⟨xi, xt, xl, xk⟩, xv⟩ := x
      dsimp only at hcl n1 n2 n3 n4 n5 n6 hxi
      have hprev : ∀ k, i = k + 1 → ∃ y, P[k]? = some y ∧ y.1.id < xi := fun k hk => by
        obtain ⟨y, hy⟩ : ∃ y, P[k]? = some y := ⟨_, List.getElem?_eq_getElem (by omega)⟩
        obtain ⟨hym, hyi⟩ := HAT.out k y hy
        have h1 := (List.getElem?_eq_some_iff.1 hyi)
        have h2 := (List.getElem?_eq_some_iff.1 hxi)
        have := List.pairwise_iff_getElem.1 HR.out.rise k i h1.1 h2.1 (by omega)
        rw [h1.2, h2.2] at this
        exact ⟨y, hy, this⟩
      have HPV := Lib.hid hprev
      have HCL := Lib.hid hcl
      have m1 : ¬ xi < 1 := by omega
      have m2 : ¬ xt < 1 := by omega
      have m3 : ¬ xl < 0 := by omega
      have m4 : ¬ xt < xl := by omega
      clear hcl hxi hprev hx
      go_upto_region 6 with fail
      go_cut [75] (fun sc wx => sc = .bool false ∧ Hid (Fr No w3 wx))
      case first =>
        as_aux_lemma =>
          by_cases hi0 : i = 0
          · subst hi0
            have hjn : 0 < R.length := by omega
            refine wp_region_class (C := fun W => Fr No w3 W) (by kernel_rfl) (by kernel_rfl) (HF.out.drew) ?_
            repeat (refine (wpQuiet_step (fun K hK => ?_) : _)
                    go_simp
                    first
                      | (refine hK _ ?_; clear hK K)
                      | (apply Exists.intro
                         refine ⟨fun W hW => ?_, hK _ ?_⟩
                         (first
                           | exact rfl
                           | (have cc := HCL.out W hW; simp only [Nat.zero_mul, Nat.add_zero] at cc; obtain ⟨c0, c1, c2, c3⟩ := cc; go_simp; exact rfl)
                         )
                         clear hK K))
            refine (wpQuiet_nil ?_ : _)
            intro w9 hw9
            go_wp2
            go_meet
            case rel => exact ⟨rfl, Lib.hid hw9⟩
          · obtain ⟨i, rfl⟩ : ∃ i', i = i' + 1 := ⟨i - 1, by omega⟩
            obtain ⟨y, hy, hyz⟩ := HPV.out i rfl
            have hrd : ∀ W, Fr No w3 W → W.cell? ⟨ga, oa + i * 4, none⟩ = some (.int .i64 y.1.id) := fun W hW => by
              have hsl := (HP.out.fr0 hW).sl
              rw [← hpn] at hsl
              exact (hsl.cells4 lvC_length i hy rfl).1
            have HRD := Lib.hid hrd
            have m5 : ¬ xi ≤ y.1.id := by omega
            have hwi : IntKind.i64.wrap (i : Int) = (i : Int) := by rw [IntKind.wrap_i64]; omega
            have hil1 : 0 ≤ (i : Int) + 1 := by omega
            have hil2 : (i : Int) + 1 < (R.length : Int) := by omega
            have hil3 : (i : Int) < (R.length : Int) := by omega
            generalize y.1.id = yi at *
            clear hy hrd
            refine wp_region_class (C := fun W => Fr No w3 W) (by kernel_rfl) (by kernel_rfl) (HF.out.drew) ?_
            repeat (refine (wpQuiet_step (fun K hK => ?_) : _)
                    go_simp
                    first
                      | (refine hK _ ?_; clear hK K)
                      | (apply Exists.intro
                         refine ⟨fun W hW => ?_, hK _ ?_⟩
                         (first
                           | exact rfl
                           | (obtain ⟨c0, c1, c2, c3⟩ := HCL.out W hW; have d0 := HRD.out W hW; go_simp; exact rfl)
                         )
                         clear hK K))
            refine (wpQuiet_nil ?_ : _)
            intro w9 hw9
            go_wp2
            go_meet
            case rel => exact ⟨rfl, Lib.hid hw9⟩
      case rest =>
        obtain ⟨rfl, HF⟩ := hcut
        have hks := (HP.out.keys _ (List.mem_of_getElem? HX.out)).1
        dsimp only at hks
        obtain ⟨xa, xc, rfl, hxc, hxm', hxa⟩ := hks.shape
        have hkr := HR.out.keys _ hxm
        have hof : ∀ k ∈ xk, ∀ W, Fr No w3 W → Calls Try.prog 15 #[.pointer (some ⟨t, 0, none⟩), .string k] W fun e w' => e = .returned (.int .i64 xi) ∧ Fr No w3 w' := fun k hk W hW => by
          have h1 := Of_at (HL.out.fr0 hW) k ((HR.out.klen _ hxm).2 k hk)
          rw [HR.out.of hxm hk] at h1
          exact h1.mono fun e w' ⟨h2, h3⟩ => ⟨h2, h3 ▸ hW⟩
        have HKS := Lib.hid hks
        have HXA := Lib.hid hxa
        have HKR := Lib.hid hkr
        have HOFK := Lib.hid hof
        unfold maxLen at hxm'
        clear hks hxa hkr hof
        go_upto_region 9 with fail
        go_loopg [6] xk.length (fun gg s6 wq => ∃ j : Nat, s6 = .int .i64 j ∧ j + gg = xk.length ∧ Hid (Fr No w3 wq))
        case atStart => exact ⟨0, rfl, by omega, HF⟩
        case round =>
          obtain ⟨j, rfl, hj, HJ⟩ := hrel
          obtain ⟨c0, c1, c2, c3⟩ := HCL.out _ HJ.out
          cases gk with
          | zero =>
            have hjl : ¬ (j : Int) < (xk.length : Int) := by omega
            go_wp2
            go_roundg g
            case rel => exact ⟨i + 1, by go_num, by omega, HJ⟩
            case measure => omega
          | succ g2 =>
            have hjl : (j : Int) < (xk.length : Int) := by omega
            obtain ⟨y, hy⟩ : ∃ y, xk[j]? = some y := ⟨_, List.getElem?_eq_getElem (by omega)⟩
            obtain ⟨gk', ok', rfl⟩ := HXA.out (by omega)
            have hkc : ∀ W, Fr No w3 W → W.cell? ⟨gk', ok' + j, none⟩ = some (.string y) := fun W hW => by
              have := (HKS.out.fr0 hW).cell0 strC_len j hy rfl
              simpa only [Nat.mul_one] using this
            have HKC := Lib.hid hkc
            have HOF := Lib.hid fun W hW => HOFK.out y (List.mem_of_getElem? hy) W hW
            have HY := Lib.hid hy
            clear hkc hy
            go_upto_region 11 with fail
            clear c0 c1 c2 c3
            go_cut [125] (fun sc wx => sc = .bool false ∧ Hid (Fr No w3 wx))
            case first =>
              as_aux_lemma =>
                by_cases hj0 : j = 0
                · subst hj0
                  simp only [Nat.add_zero] at HKC
                  have hjn : 0 < xk.length := by omega
                  refine wp_region_class (C := fun W => Fr No w3 W) (by kernel_rfl) (by kernel_rfl) (HJ.out.drew) ?_
                  repeat (refine (wpQuiet_step (fun K hK => ?_) : _)
                          go_simp
                          first
                            | (refine hK _ ?_; clear hK K)
                            | (apply Exists.intro
                               refine ⟨fun W hW => ?_, hK _ ?_⟩
                               (first
                                 | exact rfl
                                 | (obtain ⟨c0, c1, c2, c3⟩ := HCL.out W hW; have d0 := HKC.out W hW; go_simp; exact rfl)
                                 | (go_simp; exact ⟨rfl, HOF.out W hW⟩)
                                 | exact HOF.out W hW
                               )
                               clear hK K))
                  refine (wpQuiet_nil ?_ : _)
                  intro w9 hw9
                  go_wp2
                  go_meet
                  case rel => exact ⟨rfl, Lib.hid hw9⟩
                · obtain ⟨j, rfl⟩ : ∃ j', j = j' + 1 := ⟨j - 1, by omega⟩
                  obtain ⟨z, hz⟩ : ∃ z, xk[j]? = some z := ⟨_, List.getElem?_eq_getElem (by omega)⟩
                  have hkd : ∀ W, Fr No w3 W → W.cell? ⟨gk', ok' + j, none⟩ = some (.string z) := fun W hW => by
                    have := (HKS.out.fr0 hW).cell0 strC_len j hz rfl
                    simpa only [Nat.mul_one] using this
                  have hlt : klt z y = true := by
                    have h1 := (List.getElem?_eq_some_iff.1 hz)
                    have h2 := (List.getElem?_eq_some_iff.1 HY.out)
                    have := List.pairwise_iff_getElem.1 HKR.out j (j + 1) h1.1 h2.1 (by omega)
                    rw [h1.2, h2.2] at this
                    exact this
                  have hlt2 := klt_asymm hlt
                  have hne : (y.toList == z.toList) = false := by
                    rw [Bool.eq_false_iff]
                    intro h
                    have := keq_iff.1 (show keq y z = true from h)
                    rw [this, klt_irrefl] at hlt
                    cases hlt
                  unfold klt at hlt hlt2
                  have hwi : IntKind.i64.wrap (j : Int) = (j : Int) := by rw [IntKind.wrap_i64]; omega
                  have hil1 : 0 ≤ (j : Int) + 1 := by omega
                  have hil2 : (j : Int) + 1 < (xk.length : Int) := by omega
                  have hil3 : (j : Int) < (xk.length : Int) := by omega
                  have hil4 : j + 1 < xk.length := by omega
                  have hil5 : j < xk.length := by omega
                  have hil6 : 0 < (j : Int) + 1 := by omega
                  have HKD := Lib.hid hkd
                  clear hz hkd
                  refine wp_region_class (C := fun W => Fr No w3 W) (by kernel_rfl) (by kernel_rfl) (HJ.out.drew) ?_
                  repeat (refine (wpQuiet_step (fun K hK => ?_) : _)
                          go_simp
                          first
                            | (refine hK _ ?_; clear hK K)
                            | (apply Exists.intro
                               refine ⟨fun W hW => ?_, hK _ ?_⟩
                               (first
                                 | exact rfl
                                 | (obtain ⟨c0, c1, c2, c3⟩ := HCL.out W hW; have d0 := HKC.out W hW; have d1 := HKD.out W hW; go_simp; exact rfl)
                                 | (go_simp; exact ⟨rfl, HOF.out W hW⟩)
                                 | exact HOF.out W hW
                               )
                               clear hK K))
                  refine (wpQuiet_nil ?_ : _)
                  intro w9 hw9
                  go_wp2
                  go_meet
                  case rel => exact ⟨by first | rfl | rw [hne], Lib.hid hw9⟩
            case rest =>
              obtain ⟨rfl, HJ2⟩ := hcut
              go_wp2
              go_roundg g2
              case rel => exact ⟨j + 1, by go_num, by omega, HJ2⟩
              case measure => omega
end Go.Proofs.Ytlomeohcgjgpjaa
