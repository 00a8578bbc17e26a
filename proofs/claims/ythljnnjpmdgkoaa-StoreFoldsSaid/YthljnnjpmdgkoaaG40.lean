/- The statement StoreFolds's function returns true, whatever its argument is. -/
import Derived.Test.YthljnnjpmdgkoaaG39
import Derived.Deep.CutBlock
import Derived.WalkLawsBesides
namespace Go.Proofs.Ythljnnjpmdgkoaa
open Go Go.Proofs Go.RowKit
set_option maxRecDepth 100000

set_option maxHeartbeats 8000000 in
theorem storeFolds_walk {TA : TreeRel} (hT : TreeOk TA 1000000) (hTD : TreeDl TA) (w : World) (v : Value) (l : List CalQ) (hv : CalR w v l) :
    Calls Try.prog 9 #[v] w fun e w' => e = .returned (.bool true) ∧ Fr No w w' := by
  have hfc := fewCals_calls w v l hv
  cases hfl : fewCals l with
  | false =>
    rw [hfl] at hfc
    obtain ⟨va, vcap, hve, _, _, _⟩ := hv.sl.shape
    clear hv
    subst hve
    have CA := Lib.hid hfc
    clear hfc
    go_enter Try.func9, Try.ntmps9
    go_wp2_with (first
      | (go_at_call 28; with_reducible refine CA.out.mono ?_; rintro e w1 ⟨rfl, rfl⟩)
      | (go_at_call 19; refine (awakeS_calls hT hTD _).mono ?_; rintro e w2 ⟨rfl, hf2⟩))
    go_ret
    exact ⟨rfl, hf2⟩
  | true =>
    rw [hfl] at hfc
    have hl30 := (fewCals_parts hfl).1
    have hdn := done_calls hT hTD w v l hv hfl
    have hG := dones_good hfl l.length (Nat.le_refl _)
    have hKO := dones_keys hfl l.length (Nat.le_refl _)
    obtain ⟨va, vcap, hve, _, _, _⟩ := hv.sl.shape
    clear hv
    subst hve
    generalize donesT l l.length = SD at *
    obtain ⟨S, D⟩ := SD
    dsimp only at hG hdn hKO
    have hS1 := fun W s F hS => State_calls3 (w := W) (s := s) (F := F) hT hG (by omega) hS
    have hdoc := hG.doc
    have hks := hG.cpl.ks
    have hm0 := hG.cpl.m0
    have hrv1 := hG.rev1
    have hev : D.events.length ≤ 1099511627 := by have := hG.ok.ev; rw [← hG.cpl.events]; omega
    have hkl : D.kvs.length ≤ 1099511627 := by
      have h1 := hG.size
      rw [← state_kvs hG]
      unfold betweenL
      exact Nat.le_trans (List.length_filterMap_le _ _) (by omega)
    -- the last Range
    have hwe : rangeE S (allG 0) = 0 := by
      have := hG.rev
      rw [rangeE_all S (by omega)]
      unfold whenE
      rw [if_neg (by omega), if_neg (by omega)]
    have hat : D.mark ≤ (if (0 : Int) ≠ 0 then (0 : Int) else S.rev) := by
      rw [if_neg (by decide), hG.rev]
      exact hm0.2
    obtain ⟨e1, e2, e3⟩ := getL_all hG hat
    rw [if_neg (by decide), hG.rev, allD_all hdoc hKO hks] at e1 e2
    rw [hG.rev] at e3
    have C30 := fun W s F hS => Range_calls2 (w := W) (s := s) (F := F) hT hG (by omega) hS (allG 0) (by decide)
    rw [hG.rev, hwe, e1, e2, e3] at C30
    have C34 := fun W => allR_calls W 0
    unfold rgV allG at C34 C30
    dsimp only at C34 C30
    simp only [if_true, decide_true, Bool.true_and] at C30
    have hnl : (D.at D.rev).length ≤ 1099511627 := by
      have h1 := hG.size
      rw [← e2]
      unfold allL betweenS betweenL
      exact Nat.le_trans (List.length_filterMap_le _ _) (Nat.le_trans (List.length_filter_le _ _) (by omega))
    have H34 := Lib.hid C34
    have H30 := Lib.hid C30
    have HS1 := Lib.hid hS1
    have HDN := Lib.hid hdn
    have HG := Lib.hid hG
    have HD := Lib.hid hdoc
    have HKO := Lib.hid hKO
    have HKS := Lib.hid hks
    have CA := Lib.hid hfc
    have hmm : ∀ w, (Instr.makeMap 71 none).run Try.prog w = .ok (.map (some w.heap.size)) (w.alloc (.map #[] 0)) := fun w => run_makeMap 71 w
    clear hwe hat e1 e2 e3 C30 C34 hS1 hdn hG hdoc hKO hks hfc
    go_enter Try.func9, Try.ntmps9
    go_upto_region 4 with (first
      | (go_at_call 28; with_reducible refine CA.out.mono ?_; rintro e w1 ⟨rfl, rfl⟩)
      | (go_at_call 29; with_reducible refine HDN.out.mono ?_; rintro e w2 ⟨s, rfl, F, hs2, hf2, hn2⟩))
    have HST2 := Lib.hid hs2
    go_upto_region 6 with (go_at_call 37; with_reducible refine (HS1.out _ _ _ HST2.out).mono ?_; rintro e w3 ⟨a1, c1, a2, c2, rfl, hk3, he3, hf3⟩; unfold stateV)
    have hb5 := alloc_old (alloc_at w3 (Obj.cells #[.int .i64 D.rev, .int .i64 D.mark, .slice a1 D.kvs.length c1, .slice a2 D.events.length c2] 69) _ rfl) (Obj.map #[] 0)
    have hf5 : Fr No w2 ((w3.alloc (Obj.cells #[.int .i64 D.rev, .int .i64 D.mark, .slice a1 D.kvs.length c1, .slice a2 D.events.length c2] 69)).alloc (Obj.map #[] 0)) := (hf3.alloc _).alloc _
    have hk5 := (hk3.alloc (Obj.cells #[.int .i64 D.rev, .int .i64 D.mark, .slice a1 D.kvs.length c1, .slice a2 D.events.length c2] 69)).alloc (Obj.map #[] 0)
    have he5 := (he3.alloc (Obj.cells #[.int .i64 D.rev, .int .i64 D.mark, .slice a1 D.kvs.length c1, .slice a2 D.events.length c2] 69)).alloc (Obj.map #[] 0)
    have hm5 : MapS ((w3.alloc (Obj.cells #[.int .i64 D.rev, .int .i64 D.mark, .slice a1 D.kvs.length c1, .slice a2 D.events.length c2] 69)).alloc (Obj.map #[] 0)) (w3.heap.size + 1) (kvF []) := by
      have := MapS.made (w3.alloc (Obj.cells #[.int .i64 D.rev, .int .i64 D.mark, .slice a1 D.kvs.length c1, .slice a2 D.events.length c2] 69))
      have e : (w3.alloc (Obj.cells #[.int .i64 D.rev, .int .i64 D.mark, .slice a1 D.kvs.length c1, .slice a2 D.events.length c2] 69)).heap.size = w3.heap.size + 1 := by simp
      rw [e] at this
      exact this
    have hkn : ∀ b, (Value.slice a1 D.kvs.length c1).ownBlock = some b → b ≠ w3.heap.size + 1 := fun b hb => by have := hk3.lt b hb; omega
    have hen : ∀ b, (Value.slice a2 D.events.length c2).ownBlock = some b → b ≠ w3.heap.size + 1 := fun b hb => by have := he3.lt b hb; omega
    have hFn : ∀ b, F b → b ≠ w3.heap.size + 1 := fun b hb => by have := HST2.out.lt hT b hb; have := hf3.size; omega
    have hwn : w.heap.size ≤ w3.heap.size := by have := hf2.size; have := hf3.size; omega
    have hST5 : StoreAt TA ((w3.alloc (Obj.cells #[.int .i64 D.rev, .int .i64 D.mark, .slice a1 D.kvs.length c1, .slice a2 D.events.length c2] 69)).alloc (Obj.map #[] 0)) s S F := HST2.out.fr0 hT hf5
    have hW5 : Fr No w ((w3.alloc (Obj.cells #[.int .i64 D.rev, .int .i64 D.mark, .slice a1 D.kvs.length c1, .slice a2 D.events.length c2] 69)).alloc (Obj.map #[] 0)) := hf2.trans0 hf5
    clear hk3 he3 hf3 hs2 hf2 hn2 HST2 hf5
    generalize (w3.alloc (Obj.cells #[.int .i64 D.rev, .int .i64 D.mark, .slice a1 D.kvs.length c1, .slice a2 D.events.length c2] 69)).alloc (Obj.map #[] 0) = W5 at *
    generalize w3.heap.size = sb at *
    obtain ⟨_, _, hke, hc11, hc12, hka⟩ := hk5.shape
    cases hke
    obtain ⟨_, _, hee, hc21, hc22, hea⟩ := he5.shape
    cases hee
    have HB := Lib.hid hb5
    have HK := Lib.hid hk5
    have HE := Lib.hid he5
    have HM5 := Lib.hid hm5
    have HKN := Lib.hid hkn
    have HEN := Lib.hid hen
    have HFN := Lib.hid hFn
    have HST := Lib.hid hST5
    have HW5 := Lib.hid hW5
    have HKA := Lib.hid hka
    have HEA := Lib.hid hea
    clear hb5 hk5 he5 hm5 hkn hen hFn hST5 hW5 hka hea
    go_wp2
    go_loopg [6] D.kvs.length (fun g s6 wr => ∃ i : Nat, s6 = .int .i64 i ∧ i + g = D.kvs.length ∧ Hid (Fr (fun b => b = sb + 1) W5 wr) ∧ Hid (MapS wr (sb + 1) (kvF (D.kvs.take i))))
    case atStart => exact ⟨0, rfl, by simp, Lib.hid (Fr.refl _ W5), Lib.hid (by simpa using HM5.out)⟩
    case round =>
      obtain ⟨i, rfl, hi, HF, HM⟩ := hrel
      have hb := HF.out.heap HB.out (by omega)
      have lb := heap_lt hb
      have s0 : wr.cell? ⟨sb, 0, none⟩ = some (.int .i64 D.rev) := by unfold World.cell?; dsimp only; rw [hb]; rfl
      have s1 : wr.cell? ⟨sb, 1, none⟩ = some (.int .i64 D.mark) := by unfold World.cell?; dsimp only; rw [hb]; rfl
      have s2 : wr.cell? ⟨sb, 2, none⟩ = some (.slice a1 D.kvs.length c1) := by unfold World.cell?; dsimp only; rw [hb]; rfl
      have s3 : wr.cell? ⟨sb, 3, none⟩ = some (.slice a2 D.events.length c2) := by unfold World.cell?; dsimp only; rw [hb]; rfl
      clear hb
      cases gk with
      | succ g =>
        have hil : (i : Int) < (D.kvs.length : Int) := by omega
        obtain ⟨gb, go, rfl⟩ := HKA.out (by omega)
        obtain ⟨x, hx⟩ : ∃ x, D.kvs[i]? = some x := ⟨_, List.getElem?_eq_getElem (by omega)⟩
        have hk := HK.out.fr HF.out (fun b hb e => HKN.out b hb e)
        have x0 := hk.cell0 kvC_length i hx rfl
        have x1 := hk.cell kvC_length i 1 hx rfl
        have x2 := hk.cell kvC_length i 2 hx rfl
        have x3 := hk.cell kvC_length i 3 hx rfl
        have x4 := hk.cell kvC_length i 4 hx rfl
        have x5 := hk.cell kvC_length i 5 hx rfl
        have hxk := (inB_right (HKO.out.kvs x (List.mem_of_getElem? hx))).2
        have hkt := kvF_take HKS.out hx
        have lk := World.block_lt_of_cell? _ _ x0
        have HKT := Lib.hid hkt
        clear hk hkt hx
        obtain ⟨p1, p2, p3, p4, p5, p6⟩ := x
        dsimp only at x0 x1 x2 x3 x4 x5 hxk HKT
        go_upto_region 9 with fail
        refine wp_region_still_tail 12 (by kernel_rfl) (by kernel_rfl) ?_
        simp only [List.take_succ_cons, List.take_zero, List.drop_succ_cons, List.drop_zero]
        change wpStill _ _ wr.drew _ _ _
        repeat (refine wpStill_step (fun K hK => ?_); go_simp; (try go_bits); refine hK _ ?_; clear hK K)
        refine wpStill_nil ?_
        change wpList _ _ _ _ _ wr.drew
        refine wpList_storeS rfl _ _ _ 71 rfl 9 57 Try.underlying71 Try.underlying9 (sb + 1) _ rfl HM.out p1 rfl (by unfold maxLen; omega) (kvV ⟨p1, p2, p3, p4, p5, p6⟩) rfl ?_
        intro w5 hm5 hf5 hsz5
        go_wp2
        go_roundg g
        case rel => exact ⟨i + 1, by go_num, by omega, Lib.hid (HF.out.drew.trans hf5 fun _ _ e => e), Lib.hid (by rw [HKT.out]; exact hm5)⟩
        case measure => omega
      | zero =>
        have hil : ¬ (i : Int) < (D.kvs.length : Int) := by omega
        have hie : i = D.kvs.length := by omega
        subst hie
        have hM0 : MapS wr (sb + 1) (kvF (foldTo D 0)) := by
          have := HM.out
          rw [List.take_length] at this
          rw [foldTo_zero]
          exact this
        have HM0 := Lib.hid hM0
        clear hM0 HM
        go_wp2
        go_loopg [7, 8] D.events.length (fun g s7 s8 wr => ∃ i : Nat, s7 = .int .i64 (revAt D i) ∧ s8 = .int .i64 i ∧ i + g = D.events.length ∧ Hid (Fr (fun b => b = sb + 1) W5 wr) ∧ Hid (MapS wr (sb + 1) (kvF (foldTo D i))))
        case atStart =>
          exact ⟨0, by unfold revAt; rw [if_pos rfl], rfl, by simp, HF, HM0⟩
        case round =>
          clear HF HM0 s0 s1 s2 s3 lb
          obtain ⟨i, rfl, rfl, hi, HF, HM⟩ := hrel
          have hb := HF.out.heap HB.out (by omega)
          have lb := heap_lt hb
          have s1 : wr.cell? ⟨sb, 1, none⟩ = some (.int .i64 D.mark) := by unfold World.cell?; dsimp only; rw [hb]; rfl
          have s3 : wr.cell? ⟨sb, 3, none⟩ = some (.slice a2 D.events.length c2) := by unfold World.cell?; dsimp only; rw [hb]; rfl
          cases gk with
          | succ g =>
            have hil : (i : Int) < (D.events.length : Int) := by omega
            have he := HE.out.fr HF.out (fun b hb e => HEN.out b hb e)
            obtain ⟨gb, go, rfl⟩ := HEA.out (by omega)
            obtain ⟨x, hx⟩ : ∃ x, D.events[i]? = some x := ⟨_, List.getElem?_eq_getElem (by omega)⟩
            have x0 := he.cell0 evC_length i hx rfl
            have x1 := he.cell evC_length i 1 hx rfl
            have x2 := he.cell evC_length i 2 hx rfl
            have x3 := he.cell evC_length i 3 hx rfl
            have x4 := he.cell evC_length i 4 hx rfl
            have x5 := he.cell evC_length i 5 hx rfl
            have x6 := he.cell evC_length i 6 hx rfl
            have x7 := he.cell evC_length i 7 hx rfl
            have x8 := he.cell evC_length i 8 hx rfl
            have x9 := he.cell evC_length i 9 hx rfl
            have x10 := he.cell evC_length i 10 hx rfl
            have x11 := he.cell evC_length i 11 hx rfl
            have x12 := he.cell evC_length i 12 hx rfl
            have lk := World.block_lt_of_cell? _ _ x0
            have hch := HD.out.chain hm0.1 hx
            have hlo := HD.out.lo x (List.mem_of_getElem? hx)
            have hrs := revAt_succ hx
            have hun := fun (j : Nat) (b : Ev) (hj : D.events[j]? = some b) (hji : j < i) (e : b.kv.mod = x.kv.mod) => HD.out.uniq_at hj hx hji e
            have hpv := HD.out.prev_at hx
            have hfm := foldTo_mark hx
            have hfd := foldTo_does hx
            have hxk := (inB_right (HKO.out.evs x (List.mem_of_getElem? hx))).2
            have hfs := foldTo_sorted HKS.out i
            have hsz := HM.out.lt
            have HEV := Lib.hid he
            have HUN := Lib.hid hun
            have HPV := Lib.hid hpv
            have HFM := Lib.hid hfm
            have HFD := Lib.hid hfd
            have HFS := Lib.hid hfs
            have HRS := Lib.hid hrs
            have HX := Lib.hid hx
            clear hx hun hpv hfm hfd hfs hrs he
            obtain ⟨kd, ⟨p1, p2, p3, p4, p5, p6⟩, ⟨q1, q2, q3, q4, q5, q6⟩⟩ := x
            dsimp only at x0 x1 x2 x3 x4 x5 x6 x7 x8 x9 x10 x11 x12 hch hlo hxk HUN HPV HFM HFD HRS
            generalize revAt D i = rv at *
            go_upto_region 15 with fail
            have hf1 : Fr No wr (wr.alloc (Obj.cells #[.int .i64 kd, .string p1, .string p2, .int .i64 p3, .int .i64 p4, .int .i64 p5, .int .i64 p6, .string q1, .string q2, .int .i64 q3, .int .i64 q4, .int .i64 q5, .int .i64 q6] 73)) := (Fr.refl No wr).alloc _
            have hb1 := alloc_old hb (Obj.cells #[.int .i64 kd, .string p1, .string p2, .int .i64 p3, .int .i64 p4, .int .i64 p5, .int .i64 p6, .string q1, .string q2, .int .i64 q3, .int .i64 q4, .int .i64 q5, .int .i64 q6] 73)
            have he1 := HEV.out.alloc (Obj.cells #[.int .i64 kd, .string p1, .string p2, .int .i64 p3, .int .i64 p4, .int .i64 p5, .int .i64 p6, .string q1, .string q2, .int .i64 q3, .int .i64 q4, .int .i64 q5, .int .i64 q6] 73)
            have hm1 : MapS (wr.alloc (Obj.cells #[.int .i64 kd, .string p1, .string p2, .int .i64 p3, .int .i64 p4, .int .i64 p5, .int .i64 p6, .string q1, .string q2, .int .i64 q3, .int .i64 q4, .int .i64 q5, .int .i64 q6] 73)) (sb + 1) (kvF (foldTo D i)) := HM.out.fr hf1 (fun h => h)
            have hn1 := alloc_at wr (Obj.cells #[.int .i64 kd, .string p1, .string p2, .int .i64 p3, .int .i64 p4, .int .i64 p5, .int .i64 p6, .string q1, .string q2, .int .i64 q3, .int .i64 q4, .int .i64 q5, .int .i64 q6] 73) _ rfl
            have hfa : Fr (fun b => b = sb + 1) W5 (wr.alloc (Obj.cells #[.int .i64 kd, .string p1, .string p2, .int .i64 p3, .int .i64 p4, .int .i64 p5, .int .i64 p6, .string q1, .string q2, .int .i64 q3, .int .i64 q4, .int .i64 q5, .int .i64 q6] 73)) := HF.out.alloc _
            generalize hW1 : wr.alloc (Obj.cells #[.int .i64 kd, .string p1, .string p2, .int .i64 p3, .int .i64 p4, .int .i64 p5, .int .i64 p6, .string q1, .string q2, .int .i64 q3, .int .i64 q4, .int .i64 q5, .int .i64 q6] 73) = W1 at *
            generalize hnb : wr.heap.size = nb at *
            have y0 : W1.cell? ⟨nb, 0, none⟩ = some (.int .i64 kd) := by unfold World.cell?; dsimp only; rw [hn1]; rfl
            have y1 : W1.cell? ⟨nb, 1, none⟩ = some (.string p1) := by unfold World.cell?; dsimp only; rw [hn1]; rfl
            have y2 : W1.cell? ⟨nb, 2, none⟩ = some (.string p2) := by unfold World.cell?; dsimp only; rw [hn1]; rfl
            have y3 : W1.cell? ⟨nb, 3, none⟩ = some (.int .i64 p3) := by unfold World.cell?; dsimp only; rw [hn1]; rfl
            have y4 : W1.cell? ⟨nb, 4, none⟩ = some (.int .i64 p4) := by unfold World.cell?; dsimp only; rw [hn1]; rfl
            have y5 : W1.cell? ⟨nb, 5, none⟩ = some (.int .i64 p5) := by unfold World.cell?; dsimp only; rw [hn1]; rfl
            have y6 : W1.cell? ⟨nb, 6, none⟩ = some (.int .i64 p6) := by unfold World.cell?; dsimp only; rw [hn1]; rfl
            have y7 : W1.cell? ⟨nb, 7, none⟩ = some (.string q1) := by unfold World.cell?; dsimp only; rw [hn1]; rfl
            have y8 : W1.cell? ⟨nb, 8, none⟩ = some (.string q2) := by unfold World.cell?; dsimp only; rw [hn1]; rfl
            have y9 : W1.cell? ⟨nb, 9, none⟩ = some (.int .i64 q3) := by unfold World.cell?; dsimp only; rw [hn1]; rfl
            have y10 : W1.cell? ⟨nb, 10, none⟩ = some (.int .i64 q4) := by unfold World.cell?; dsimp only; rw [hn1]; rfl
            have y11 : W1.cell? ⟨nb, 11, none⟩ = some (.int .i64 q5) := by unfold World.cell?; dsimp only; rw [hn1]; rfl
            have y12 : W1.cell? ⟨nb, 12, none⟩ = some (.int .i64 q6) := by unfold World.cell?; dsimp only; rw [hn1]; rfl
            have s1' : W1.cell? ⟨sb, 1, none⟩ = some (.int .i64 D.mark) := by unfold World.cell?; dsimp only; rw [hb1]; rfl
            have s3' : W1.cell? ⟨sb, 3, none⟩ = some (.slice (some ⟨gb, go, none⟩) D.events.length c2) := by unfold World.cell?; dsimp only; rw [hb1]; rfl
            have ly := heap_lt hn1
            have lb1 := heap_lt hb1
            have HB1 := Lib.hid hb1
            have HE1 := Lib.hid he1
            have HM1 := Lib.hid hm1
            have HN1 := Lib.hid hn1
            have HFA := Lib.hid hfa
            clear hb hb1 he1 hm1 hn1 hfa hf1 s1 s3 x0 x1 x2 x3 x4 x5 x6 x7 x8 x9 x10 x11 x12 lk lb HEV HM HF
            go_cut [72] (fun s72 wx => s72 = .bool false ∧ W1 = wx)
            case first =>
              rcases hch with rfl | rfl
              · go_wp2
                go_meet
                case rel => exact ⟨rfl, rfl⟩
              · have hne : ((rv + 1 : Int) == rv) = false := by rw [beq_eq_false_iff_ne]; omega
                go_wp2
                go_meet
                case rel => exact ⟨rfl, rfl⟩
            case rest =>
              obtain ⟨rfl, rfl⟩ := hcut
              go_upto_block 4 with fail
              go_cut [10] (fun _ wx => Hid (Fr No W1 wx))
              case first =>
                go_wp2_with fail
                go_loopg [10] i (fun g s10 wx => s10 = .int .i64 ((g : Int) - 1) ∧ g ≤ i ∧ Hid (Fr No W1 wx))
                case atStart => exact ⟨rfl, Nat.le_refl _, Lib.hid (Fr.refl _ _)⟩
                case round =>
                  obtain ⟨rfl, hgi, HQ⟩ := hrel
                  cases gk with
                  | zero =>
                    rw [show ((0 : Nat) : Int) - 1 = -1 from rfl]
                    go_wp2
                    go_meet
                    case rel => exact HQ
                  | succ j =>
                    rw [show ((j + 1 : Nat) : Int) - 1 = (j : Int) by omega]
                    obtain ⟨z, hz⟩ : ∃ z, D.events[j]? = some z := ⟨_, List.getElem?_eq_getElem (by omega)⟩
                    have hevz := HE1.out.fr0 HQ.out
                    have z1 := hevz.cell evC_length j 1 hz rfl
                    have z4 := hevz.cell evC_length j 4 hz rfl
                    have lz := World.block_lt_of_cell? _ _ z1
                    have y1z := HQ.out.cell0 y1
                    have lyz := World.block_lt_of_cell? _ _ y1z
                    have s3z := HQ.out.cell0 s3'
                    have lbz := World.block_lt_of_cell? _ _ s3z
                    have hjl : (j : Int) < (D.events.length : Int) := by omega
                    have hj0 : (0 : Int) ≤ (j : Int) := by omega
                    by_cases hme : z.kv.mod = p4
                    · have hke : z.kv.key ≠ p1 := HUN.out j z hz (by omega) hme
                      rw [hme] at z4
                      generalize z.kv.key = zk at z1 hke
                      have hk2 : (zk.toList == p1.toList) = false := by
                        show keq zk p1 = false
                        rw [Bool.eq_false_iff]
                        exact fun e => hke (keq_iff.1 e)
                      clear hme hz hevz
                      go_wp2
                      go_still (by kernel_rfl)
                      go_wp2
                      go_roundg j
                      case rel => exact ⟨by go_num, by omega, Lib.hid HQ.out.drew⟩
                      case measure => omega
                    · generalize z.kv.mod = zm at *
                      generalize z.kv.key = zk at *
                      have hk1 : (zm == p4) = false := by rw [beq_eq_false_iff_ne]; exact hme
                      clear hz hevz
                      go_wp2
                      go_meet
                      case rel => exact HQ
              case rest =>
                have HQ := hcut
                have s1c := HQ.out.cell0 s1'
                have lbc := World.block_lt_of_cell? _ _ s1c
                have HMC := Lib.hid (HM1.out.fr HQ.out (fun h => h))
                have HFC := Lib.hid (HFA.out.trans HQ.out fun b _ h => h.elim)
                clear hcut
                by_cases hmk : p4 = D.mark
                · have hmb : (p4 == D.mark) = true := by rw [beq_iff_eq]; exact hmk
                  go_wp2
                  go_roundg g
                  case rel => exact ⟨i + 1, by rw [HRS.out, hmk], by go_num, by omega, HFC, Lib.hid (by rw [HFM.out (by omega)]; exact HMC.out)⟩
                  case measure => omega
                · have hmb : (p4 == D.mark) = false := by rw [beq_eq_false_iff_ne]; exact hmk
                  have hlt : D.mark < p4 := by omega
                  have hlook : (kvF (foldTo D i) p1).getD (kvV kv0) = .agg #[.string q1, .string q2, .int .i64 q3, .int .i64 q4, .int .i64 q5, .int .i64 q6] := by
                    rw [kvF_look, ← HPV.out hlt]
                    rfl
                  have hpm : p1.size ≤ maxLen := by unfold maxLen; omega
                  have HLK := Lib.hid hlook
                  clear hlook
                  have c0 := HQ.out.cell0 y0
                  have c1 := HQ.out.cell0 y1
                  have c2 := HQ.out.cell0 y2
                  have c3 := HQ.out.cell0 y3
                  have c4 := HQ.out.cell0 y4
                  have c5 := HQ.out.cell0 y5
                  have c6 := HQ.out.cell0 y6
                  have c7 := HQ.out.cell0 y7
                  have c8 := HQ.out.cell0 y8
                  have c9 := HQ.out.cell0 y9
                  have c10 := HQ.out.cell0 y10
                  have c11 := HQ.out.cell0 y11
                  have c12 := HQ.out.cell0 y12
                  have lyc := World.block_lt_of_cell? _ _ c0
                  have hsc := HMC.out.lt
                  go_upto_region 26 with (at_lookup; refine wpList_lookS rfl _ _ 71 rfl 9 57 Try.underlying71 Try.underlying9 (sb + 1) _ rfl HMC.out p1 rfl hpm _ (zero57 _) _ HLK.out ?_)
                  by_cases hk : kd = 1
                  · have hkb : (kd == 1) = true := by rw [beq_iff_eq]; exact hk
                    go_wp2_with (refine wpList_storeS rfl _ _ _ 71 rfl 9 57 Try.underlying71 Try.underlying9 (sb + 1) _ rfl HMC.out p1 rfl hpm (kvV ⟨p1, p2, p3, p4, p5, p6⟩) rfl ?_; intro w5 hm5 hf5 hsz5)
                    go_roundg g
                    case rel => exact ⟨i + 1, by rw [HRS.out], by go_num, by omega, Lib.hid (HFC.out.trans hf5 fun _ _ e => e), Lib.hid (by rw [HFD.out hlt, kvF_put HFS.out hk]; exact hm5)⟩
                    case measure => omega
                  · have hkb : (kd == 1) = false := by rw [beq_eq_false_iff_ne]; exact hk
                    go_wp2_with (refine wpList_dropS rfl _ _ 71 9 rfl 57 Try.underlying71 Try.underlying9 (sb + 1) _ rfl HMC.out p1 rfl hpm ?_; intro w5 hm5 hf5 hsz5)
                    go_roundg g
                    case rel => exact ⟨i + 1, by rw [HRS.out], by go_num, by omega, Lib.hid (HFC.out.trans hf5 fun _ _ e => e), Lib.hid (by rw [HFD.out hlt, kvF_del HFS.out hk]; exact hm5)⟩
                    case measure => omega
          | zero =>
            have hil : ¬ (i : Int) < (D.events.length : Int) := by omega
            have hie : i = D.events.length := by omega
            subst hie
            have hrl := HD.out.revAt_last hm0.1 hm0.2
            have hfa := foldTo_all HD.out
            have has := foldTo_sorted HKS.out D.events.length
            have hak : ∀ y ∈ D.at D.rev, y.key.size ≤ maxLen := fun y hy => by have := (inB_right (HKO.out.at HKS.out hy)).2; unfold maxLen; omega
            rw [hfa] at has HM
            rw [hrl]
            have HAK := Lib.hid hak
            have HAS := Lib.hid has
            have HWR := Lib.hid (HW5.out.trans HF.out fun b hb h => by omega)
            have HSR := Lib.hid (HST.out.fr hT HF.out (fun b hb e => HFN.out b hb e))
            have s0 : wr.cell? ⟨sb, 0, none⟩ = some (.int .i64 D.rev) := by unfold World.cell?; dsimp only; rw [hb]; rfl
            clear hrl hfa has hak hb HF
            generalize D.at D.rev = al at *
            go_upto_region 30 with (first
              | (go_at_call 34; with_reducible refine (H34.out _).mono ?_; rintro e w5 ⟨rfl, hf5⟩)
              | (go_at_call 30; with_reducible refine (H30.out _ _ _ (HSR.out.fr0 hT hf5)).mono ?_; rintro e w6 ⟨v6, rfl, hv6, hf6, _⟩; obtain ⟨a6, c6, rfl, h61, h62, h63⟩ := hv6.shape))
            have hf56 := hf5.trans0 hf6
            have s06 := hf56.cell0 s0
            have ls6 := World.block_lt_of_cell? _ _ s06
            have hm6 := HM.out.fr hf56 (fun h => h)
            obtain ⟨es, clock, hb6, hes⟩ := MapL.size hm6 HAS.out
            have hlen : (Builtin.len_ #[71] 3 #[.map (some (sb + 1))]).run Try.prog w6 = .ok (.int .i64 (al.length : Int)) w6 := run_lenS hm6 HAS.out 3
            have HM6 := Lib.hid hm6
            have HW6 := Lib.hid (HWR.out.trans0 hf56)
            have HV6 := Lib.hid hv6
            clear hf5 hf6 hf56 hm6 hv6 HSR HWR HM hb6 hes s0 s1 s3 lb
            go_wp2
            go_loopg [15] al.length (fun g s15 wx => ∃ i : Nat, s15 = .int .i64 i ∧ i + g = al.length ∧ Hid (Fr No w6 wx))
            case atStart => exact ⟨0, rfl, by simp, Lib.hid (Fr.refl _ w6)⟩
            case round =>
              obtain ⟨i, rfl, hi, HF⟩ := hrel
              cases gk with
              | zero =>
                have hil : ¬ (i : Int) < (al.length : Int) := by omega
                go_wp2_with (go_at_call 19; refine (awakeS_calls hT hTD _).mono ?_; rintro e w7 ⟨rfl, hf7⟩)
                go_ret
                exact ⟨rfl, HW6.out.trans0 (HF.out.trans0 hf7)⟩
              | succ g =>
                have hil : (i : Int) < (al.length : Int) := by omega
                obtain ⟨gb, go, rfl⟩ := h63 (by omega)
                obtain ⟨y, hy⟩ : ∃ y, al[i]? = some y := ⟨_, List.getElem?_eq_getElem (by omega)⟩
                have hv := HV6.out.fr0 HF.out
                have y0 := hv.cell0 kvC_length i hy rfl
                have y1 := hv.cell kvC_length i 1 hy rfl
                have y2 := hv.cell kvC_length i 2 hy rfl
                have y3 := hv.cell kvC_length i 3 hy rfl
                have y4 := hv.cell kvC_length i 4 hy rfl
                have y5 := hv.cell kvC_length i 5 hy rfl
                have ly := World.block_lt_of_cell? _ _ y0
                have hkm := HAK.out y (List.mem_of_getElem? hy)
                have hm := HM6.out.fr HF.out (fun h => h)
                have hlk : (Instr.lookup 71 (.map (some (sb + 1))) (.string y.key) false).run Try.prog wr.drew = .ok (kvV y) wr.drew := by
                  have h1 := MapS.look (P := Try.prog) (w := wr.drew) hm Try.underlying71 Try.underlying9 hkm (zero57 _)
                  rw [kvF_look, (hasL_iff HAS.out y.key y).2 ⟨List.mem_of_getElem? hy, rfl⟩] at h1
                  exact h1
                rcases Nat.eq_zero_or_pos i with h0 | h0
                · subst h0
                  clear hv hm hy
                  obtain ⟨z1, z2, z3, z4, z5, z6⟩ := y
                  unfold kvV at hlk
                  dsimp only at y0 y1 y2 y3 y4 y5 hlk
                  simp only [Nat.zero_mul, Nat.add_zero] at y0 y1 y2 y3 y4 y5
                  rw [show ((0 : Nat) : Int) = (0 : Int) from rfl]
                  go_upto_region 35 with fail
                  refine wp_region_still_lit (by kernel_rfl) (by kernel_rfl) ?_
                  iterate 16 still_step
                  repeat (refine (wpStill_step (fun K hK => ?_) : _); go_simp; refine hK _ ?_; clear hK K)
                  refine (wpStill_nil ?_ : _)
                  go_wp2
                  go_roundg g
                  case rel => exact ⟨1, by go_num, by omega, Lib.hid HF.out.drew⟩
                  case measure => omega
                · obtain ⟨j, rfl⟩ : ∃ j, i = j + 1 := ⟨i - 1, by omega⟩
                  obtain ⟨x, hx⟩ : ∃ x, al[j]? = some x := ⟨_, List.getElem?_eq_getElem (by omega)⟩
                  have x0 := hv.cell0 kvC_length j hx rfl
                  have hkl : klt x.key y.key = true := by
                    obtain ⟨i1, i2⟩ := List.getElem?_eq_some_iff.1 hx
                    obtain ⟨j1, j2⟩ := List.getElem?_eq_some_iff.1 hy
                    have := List.pairwise_iff_getElem.1 HAS.out j (j + 1) i1 j1 (by omega)
                    rw [i2, j2] at this
                    exact this
                  generalize x.key = xk at x0 hkl
                  clear hv hm hy hx
                  obtain ⟨z1, z2, z3, z4, z5, z6⟩ := y
                  have hkl1 : klt z1 xk = false := klt_asymm hkl
                  have hkl2 : keq z1 xk = false := by rw [keq_comm]; exact klt_ne hkl
                  unfold kvV at hlk
                  unfold klt at hkl1
                  unfold keq at hkl2
                  clear hkl
                  dsimp only at x0 y0 y1 y2 y3 y4 y5 hlk
                  have hg1 : decide ((0 : Int) < ((j + 1 : Nat) : Int)) = true := by rw [decide_eq_true_iff]; omega
                  have hg2 : decide (((j + 1 : Nat) : Int) > (0 : Int)) = true := by rw [decide_eq_true_iff]; omega
                  have hsub : ((j + 1 : Nat) : Int) - 1 = (j : Int) := by omega
                  have hj0 : (0 : Int) ≤ ((j + 1 : Nat) : Int) := by omega
                  have hj1 : (0 : Int) ≤ (j : Int) + 1 := by omega
                  have hj2 : (0 : Int) ≤ (j : Int) := by omega
                  have hjl : (j : Int) < (al.length : Int) := by omega
                  have hwj : IntKind.i64.wrap (j : Int) = (j : Int) := IntWalk.i64_in _ ⟨by omega, by have h := h62; unfold maxLen at h; omega⟩
                  go_upto_region 35 with fail
                  refine wp_region_still_lit (by kernel_rfl) (by kernel_rfl) ?_
                  repeat (refine (wpStill_step (fun K hK => ?_) : _); go_simp; refine hK _ ?_; clear hK K)
                  refine wpStill_nil ?_
                  go_wp2
                  go_roundg g
                  case rel => exact ⟨j + 2, by go_num, by omega, Lib.hid HF.out.drew⟩
                  case measure => omega
end Go.Proofs.Ythljnnjpmdgkoaa
