/- The store's Check: what is wrong with ops. The condition: texts are of less than 2^40 bytes. -/
import Derived.Test.YthljnnjpmdgkoaaAsks
import Derived.Test.YthljnnjpmdgkoaaRead
namespace Go.Proofs.Ythljnnjpmdgkoaa
open Go Go.Proofs Go.RowKit
set_option maxRecDepth 100000

/-- Does an op touch the key of another one? -/
def clash (o p : Opr) : Bool := (p.kind == 1 && p.rg.key.toList == o.rg.key.toList) || (p.kind == 2 && inB o.rg.key p.rg.key p.rg.end_)

theorem clash_calls (w : World) (o p : Opr) (b : Nat) (hb : w.heap[b]? = some (.cells (opC o).toArray 87 (0, 0))) :
    Calls Try.prog 53 #[opV p, .pointer (some ⟨b, 0, none⟩)] w fun e w' => e = .returned (.bool (clash o p)) ∧ Fr No w w' := by
  obtain ⟨p1, ⟨g1, g2, g3, g4, g5, g6, g7⟩, p2, p3⟩ := p
  unfold opV clash
  dsimp only
  have hbl := heap_lt hb
  have x1 : w.cell? ⟨b, 1, none⟩ = some (.string o.rg.key) := by unfold World.cell?; simp only; rw [hb]; rfl
  have hB := Lib.hid hb
  clear hb
  by_cases h1 : p1 = 1
  · subst h1
    cases h2 : (g1.toList == o.rg.key.toList)
    · go_enter Try.func53, Try.ntmps53
      go_wp2
      go_ret
      exact ⟨by simp, (Fr.refl No w).alloc _⟩
    · go_enter Try.func53, Try.ntmps53
      go_wp2
      go_ret
      exact ⟨by simp, (Fr.refl No w).alloc _⟩
  · have h1' : (p1 == 1) = false := by simpa using h1
    by_cases h2 : p1 = 2
    · subst h2
      go_enter Try.func53, Try.ntmps53
      go_wp2_with (go_at_call 54; refine (In_calls _ _ _ _).mono ?_; rintro e w' ⟨rfl, rfl⟩)
      go_ret
      exact ⟨by simp, (Fr.refl No w).alloc _⟩
    · have h2' : (p1 == 2) = false := by simpa using h2
      go_enter Try.func53, Try.ntmps53
      go_wp2
      go_ret
      exact ⟨by simp [h1', h2'], (Fr.refl No w).alloc _⟩

/-- The place of the first op of a kind; -1: none. -/
def idxOp (P : Opr → Bool) (l : List Opr) : Int := if l.findIdx P = l.length then -1 else (l.findIdx P : Int)

theorem indexClash_calls (w : World) (v : Value) (l : List Opr) (o : Opr) (b : Nat) (hb : w.heap[b]? = some (.cells (opC o).toArray 87 (0, 0))) (hv : SlR w 10 opC v l) (hl : l.length ≤ 1099511627) :
    Calls Try.prog 90 #[v, .func (.func 53) #[] #[.pointer (some ⟨b, 0, none⟩)]] w fun e w' => e = .returned (.int .i64 (idxOp (clash o) l)) ∧ Fr No w w' := by
  obtain ⟨a, cap, rfl, hc1, hc2, ha⟩ := hv.shape
  have HV := Lib.hid hv; clear hv
  have HA := Lib.hid ha; clear ha
  have HB := Lib.hid hb; clear hb
  go_enter Try.func90, Try.ntmps90
  go_wp2
  go_loopg [8] l.length (fun g s8 wr => ∃ i : Nat, s8 = .int .i64 i ∧ i + g = l.length ∧ Hid (∀ j, j < i → ∀ p, l[j]? = some p → clash o p = false) ∧ Hid (Fr No w wr))
  case atStart => exact ⟨0, rfl, by simp, Lib.hid (by simp), Lib.hid (Fr.refl No w)⟩
  case round =>
    obtain ⟨i, rfl, hi, HJ, HF⟩ := hrel
    cases gk with
    | zero =>
      have hil : ¬ (i : Int) < (l.length : Int) := by omega
      go_wp2
      go_ret
      refine ⟨?_, HF.out⟩
      have hu : l.findIdx (clash o) = l.length := by
        rw [List.findIdx_eq_length]
        intro x hx
        obtain ⟨j, hj, rfl⟩ := List.getElem_of_mem hx
        exact HJ.out j (by omega) _ (List.getElem?_eq_getElem hj)
      unfold idxOp
      rw [if_pos hu]
      rfl
    | succ g =>
      obtain ⟨gb, go, rfl⟩ := HA.out (by omega)
      obtain ⟨p, hx⟩ : ∃ p, l[i]? = some p := ⟨_, List.getElem?_eq_getElem (by omega)⟩
      have hvr := HV.out.fr0 HF.out
      have x0 := hvr.cell0 opC_length i hx rfl
      have x1 := hvr.cell opC_length i 1 hx rfl
      have x2 := hvr.cell opC_length i 2 hx rfl
      have x3 := hvr.cell opC_length i 3 hx rfl
      have x4 := hvr.cell opC_length i 4 hx rfl
      have x5 := hvr.cell opC_length i 5 hx rfl
      have x6 := hvr.cell opC_length i 6 hx rfl
      have x7 := hvr.cell opC_length i 7 hx rfl
      have x8 := hvr.cell opC_length i 8 hx rfl
      have x9 := hvr.cell opC_length i 9 hx rfl
      have hil : (i : Int) < (l.length : Int) := by omega
      have hcl := clash_calls wr o p b (HF.out.heap HB.out id)
      unfold opV at hcl
      cases hp : clash o p
      · rw [hp] at hcl
        have Hx := Lib.hid hx
        have Hp := Lib.hid hp
        clear hx hp hvr
        go_wp2_with (go_at_call 53; refine hcl.mono ?_; rintro e w1 ⟨rfl, hf⟩)
        go_roundg g
        case rel => exact ⟨i + 1, by go_num, by omega, Lib.hid (fun j hj q hq => by
          by_cases hji : j = i
          · subst hji; rw [Hx.out] at hq; cases hq; exact Hp.out
          · exact HJ.out j (by omega) q hq), Lib.hid (HF.out.trans0 hf)⟩
        case measure => omega
      · rw [hp] at hcl
        have Hx := Lib.hid hx
        have Hp := Lib.hid hp
        clear hx hp hvr
        go_wp2_with (go_at_call 53; refine hcl.mono ?_; rintro e w1 ⟨rfl, hf⟩)
        go_ret
        refine ⟨?_, HF.out.trans0 hf⟩
        have hu : l.findIdx (clash o) = i := by
          have hil' : i < l.length := by omega
          rw [List.findIdx_eq hil']
          have hgi : l[i] = p := (List.getElem?_eq_some_iff.1 Hx.out).2
          refine ⟨by rw [hgi]; exact Hp.out, fun j hj => ?_⟩
          exact HJ.out j hj _ (List.getElem?_eq_getElem (by omega))
        unfold idxOp
        rw [hu, if_neg (by omega)]
        rfl

theorem containsClash_calls (w : World) (v : Value) (l : List Opr) (o : Opr) (b : Nat) (hb : w.heap[b]? = some (.cells (opC o).toArray 87 (0, 0))) (hv : SlR w 10 opC v l) (hl : l.length ≤ 1099511627) :
    Calls Try.prog 55 #[v, .func (.func 53) #[] #[.pointer (some ⟨b, 0, none⟩)]] w fun e w' => e = .returned (.bool (l.any (clash o))) ∧ Fr No w w' := by
  have hidx := indexClash_calls w v l o b hb hv hl
  have hd : (0 ≤ idxOp (clash o) l ∧ l.any (clash o) = true) ∨ (¬ 0 ≤ idxOp (clash o) l ∧ l.any (clash o) = false) := by
    unfold idxOp
    by_cases h : l.findIdx (clash o) = l.length
    · rw [if_pos h]
      rw [List.findIdx_eq_length] at h
      exact .inr ⟨by omega, by rw [List.any_eq_false]; simpa using h⟩
    · rw [if_neg h]
      refine .inl ⟨by omega, ?_⟩
      have hlt : l.findIdx (clash o) < l.length := Nat.lt_of_le_of_ne List.findIdx_le_length h
      rw [List.any_eq_true]
      exact ⟨_, List.getElem_mem hlt, List.findIdx_getElem⟩
  generalize idxOp (clash o) l = n at *
  generalize l.any (clash o) = t at *
  clear hv hb
  rcases hd with ⟨h1, rfl⟩ | ⟨h1, rfl⟩
  all_goals
    go_enter Try.func55, Try.ntmps55
    go_wp2_with (go_at_call 90; refine hidx.mono ?_; rintro e w1 ⟨rfl, hf⟩)
    go_ret
    exact ⟨by first | rfl | (simp; omega), hf⟩

def twiceAt (l : List Opr) (i : Nat) : Bool := match l[i]? with
  | some o => o.kind == 1 && ((l.take i).any (clash o) || (l.drop (i + 1)).any (clash o))
  | none => false
def twice (l : List Opr) : Bool := (List.range l.length).any (twiceAt l)
/-- What is wrong with ops. -/
def checkE (l : List Opr) : Int := if 16 < l.length then 31 else match l.find? fun o => oneE o != 0 with
  | some o => oneE o
  | none => if twice l then 34 else 0

set_option maxHeartbeats 4000000 in
theorem Check_calls (w : World) (v : Value) (l : List Opr) (hv : SlR w 10 opC v l) (hl : l.length ≤ 1099511627) (hks : ∀ o ∈ l, o.rg.key.size ≤ 1099511627776) :
    Calls Try.prog 20 #[v] w fun e w' => e = .returned (.int .i64 (checkE l)) ∧ Fr No w w' := by
  obtain ⟨a, cap, rfl, hc1, hc2, ha⟩ := hv.shape
  have HV := Lib.hid hv; clear hv
  have HA := Lib.hid ha; clear ha
  have HKS := Lib.hid hks; clear hks
  by_cases h16 : 16 < l.length
  · have h16' : (16 : Int) < (l.length : Int) := by omega
    have : checkE l = 31 := by unfold checkE; rw [if_pos h16]
    rw [this]
    go_enter Try.func20, Try.ntmps20
    go_wp2
    go_ret
    exact ⟨rfl, Fr.refl No w⟩
  · have h16' : ¬ (16 : Int) < (l.length : Int) := by omega
    have hE : checkE l = match l.find? fun o => oneE o != 0 with
      | some o => oneE o
      | none => if twice l then 34 else 0 := by unfold checkE; rw [if_neg h16]
    have HE := Lib.hid hE; clear hE
    go_enter Try.func20, Try.ntmps20
    go_wp2
    go_loopg [14] l.length (fun g s14 wr => ∃ i : Nat, s14 = .int .i64 i ∧ i + g = l.length ∧ Hid (∀ j, j < i → ∀ p, l[j]? = some p → oneE p = 0) ∧ Hid (Fr No w wr))
    case atStart => exact ⟨0, rfl, by simp, Lib.hid (by simp), Lib.hid (Fr.refl No w)⟩
    case round =>
      obtain ⟨i, rfl, hi, HJ, HF⟩ := hrel
      cases gk with
      | zero =>
        have hil : ¬ (i : Int) < (l.length : Int) := by omega
        have hE2 : checkE l = if twice l then 34 else 0 := by
          rw [HE.out]
          have : l.find? (fun o => oneE o != 0) = none := by
            rw [List.find?_eq_none]
            intro x hx
            obtain ⟨j, hj, rfl⟩ := List.getElem_of_mem hx
            have := HJ.out j (by omega) _ (List.getElem?_eq_getElem hj)
            simp [this]
          rw [this]
        have HE2 := Lib.hid hE2; clear hE2
        have HF1 := HF
        clear HJ
        have hmf : ∀ (fn : Fn) (first cap : Array Value) (w : World), (Instr.makeFunc fn first cap).run Try.prog w = .ok (.func fn first cap) w := fun _ _ _ _ => rfl
        go_wp2
        go_loopg [26] l.length (fun g s26 wr => ∃ i : Nat, s26 = .int .i64 i ∧ i + g = l.length ∧ Hid (∀ j, j < i → twiceAt l j = false) ∧ Hid (Fr No w wr))
        case atStart => exact ⟨0, rfl, by simp, Lib.hid (by simp), HF1⟩
        case round =>
          obtain ⟨i, rfl, hi, HJ, HF⟩ := hrel
          cases gk with
          | zero =>
            have hil : ¬ (i : Int) < (l.length : Int) := by omega
            have hE3 : checkE l = 0 := by
              rw [HE2.out]
              have : twice l = false := by
                unfold twice
                rw [List.any_eq_false]
                intro j hj
                simp at hj
                simpa using HJ.out j (by omega)
              rw [this]; rfl
            have HE3 := Lib.hid hE3; clear hE3
            go_wp2
            go_ret
            exact ⟨by rw [HE3.out]; rfl, HF.out⟩
          | succ g =>
            obtain ⟨gb, go, rfl⟩ := HA.out (by omega)
            obtain ⟨p, hx⟩ : ∃ p, l[i]? = some p := ⟨_, List.getElem?_eq_getElem (by omega)⟩
            have hvr := HV.out.fr0 HF.out
            have x0 := hvr.cell0 opC_length i hx rfl
            have x1 := hvr.cell opC_length i 1 hx rfl
            have x2 := hvr.cell opC_length i 2 hx rfl
            have x3 := hvr.cell opC_length i 3 hx rfl
            have x4 := hvr.cell opC_length i 4 hx rfl
            have x5 := hvr.cell opC_length i 5 hx rfl
            have x6 := hvr.cell opC_length i 6 hx rfl
            have x7 := hvr.cell opC_length i 7 hx rfl
            have x8 := hvr.cell opC_length i 8 hx rfl
            have x9 := hvr.cell opC_length i 9 hx rfl
            have hil : (i : Int) < (l.length : Int) := by omega
            have hta : twiceAt l i = (p.kind == 1 && ((l.take i).any (clash p) || (l.drop (i + 1)).any (clash p))) := by unfold twiceAt; rw [hx]
            have HVR := Lib.hid hvr
            have HTA := Lib.hid hta
            have hsub : ∀ b : Bool, twiceAt l i = b → b = true → checkE l = 34 := by
              intro b hb hbt
              rw [HE2.out, if_pos]
              unfold twice
              rw [List.any_eq_true]
              exact ⟨i, by simp; omega, by rw [hb, hbt]⟩
            have HSUB := Lib.hid hsub
            clear hx hvr hta hsub
            obtain ⟨p1, ⟨g1, g2, g3, g4, g5, g6, g7⟩, p2, p3⟩ := p
            have hnext : ∀ (wz : World), twiceAt l i = false → Fr No w wz → ∃ k : Nat, Value.int .i64 ((i : Int) + 1) = .int .i64 k ∧ k + g = l.length ∧ Hid (∀ j, j < k → twiceAt l j = false) ∧ Hid (Fr No w wz) := fun wz h hf =>
              ⟨i + 1, by go_num, by omega, Lib.hid (fun j hj => by
                by_cases hji : j = i
                · subst hji; exact h
                · exact HJ.out j (by omega)), Lib.hid hf⟩
            have HN := Lib.hid hnext
            clear hnext
            by_cases h1 : p1 = 1
            · subst h1
              have hi0 : (0 : Int) ≤ (i : Int) + 1 := by omega
              have hi1 : (i : Int) + 1 ≤ (l.length : Int) := by omega
              have hi2 : i ≤ l.length := by omega
              have hi3 : i + 1 ≤ l.length := by omega
              have hi4 : (i : Int) ≤ (cap : Int) := by omega
              have hi5 : i ≤ cap := by omega
              have hst := HVR.out.take opC_length i hi2
              have hsd := HVR.out.drop opC_length (i + 1) hi3
              have HST := Lib.hid hst
              have HSD := Lib.hid hsd
              clear hst hsd
              have htl : (l.take i).length = i := by simp; omega
              have hdl : (l.drop (i + 1)).length = l.length - (i + 1) := by simp
              have hca := fun W hb hv => containsClash_calls W (.slice (some ⟨gb, go, none⟩) i cap) (l.take i) ⟨1, ⟨g1, g2, g3, g4, g5, g6, g7⟩, p2, p3⟩ wr.heap.size hb hv (by omega)
              have hcb := fun W A hb hv => containsClash_calls W (.slice A (l.length - (i + 1)) (cap - (i + 1))) (l.drop (i + 1)) ⟨1, ⟨g1, g2, g3, g4, g5, g6, g7⟩, p2, p3⟩ wr.heap.size hb hv (by omega)
              have HTL := Lib.hid htl
              have HDL := Lib.hid hdl
              clear htl hdl
              generalize hA1 : (if cap = i + 1 then some (⟨gb, go, none⟩ : Addr) else some ⟨gb, go + (i + 1) * 10, none⟩) = A1 at HSD
              have HTA' := HTA.out
              simp only at HTA'
              cases ht1 : (l.take i).any (clash ⟨1, ⟨g1, g2, g3, g4, g5, g6, g7⟩, p2, p3⟩)
              · rw [ht1] at hca HTA'
                have HCA := Lib.hid hca
                clear hca ht1
                cases ht2 : (l.drop (i + 1)).any (clash ⟨1, ⟨g1, g2, g3, g4, g5, g6, g7⟩, p2, p3⟩)
                · rw [ht2] at hcb HTA'
                  have HCB := Lib.hid hcb
                  have HTA2 := Lib.hid HTA'
                  clear hcb ht2 HTA'
                  go_wp2_with (first
                    | (go_at_call 55; refine (HCA.out _ (alloc_at _ _ _ rfl) (HST.out.alloc _)).mono ?_; rintro e w1 ⟨rfl, hf⟩
                       have hb1 := hf.heap (alloc_at wr (.cells #[.int .i64 1, .string g1, .string g2, .int .i64 g3, .int .i64 g4, .bool g5, .bool g6, .bool g7, .string p2, .int .i64 p3] 87) _ rfl) id
                       have hs1 := (HSD.out.alloc (.cells #[.int .i64 1, .string g1, .string g2, .int .i64 g3, .int .i64 g4, .bool g5, .bool g6, .bool g7, .string p2, .int .i64 p3] 87)).fr0 hf
                       have HB1 := Lib.hid hb1
                       have HS1 := Lib.hid hs1
                       clear hb1 hs1)
                    | (go_at_call 55; refine (HCB.out _ _ HB1.out HS1.out).mono ?_; rintro e w2 ⟨rfl, hf2⟩))
                  go_roundg g
                  case rel => exact HN.out _ (by rw [HTA2.out]; rfl) (((HF.out.alloc _).trans0 hf).trans0 hf2)
                  case measure => omega
                · rw [ht2] at hcb HTA'
                  have HCB := Lib.hid hcb
                  have HTA2 := Lib.hid HTA'
                  clear hcb ht2 HTA'
                  go_wp2_with (first
                    | (go_at_call 55; refine (HCA.out _ (alloc_at _ _ _ rfl) (HST.out.alloc _)).mono ?_; rintro e w1 ⟨rfl, hf⟩
                       have hb1 := hf.heap (alloc_at wr (.cells #[.int .i64 1, .string g1, .string g2, .int .i64 g3, .int .i64 g4, .bool g5, .bool g6, .bool g7, .string p2, .int .i64 p3] 87) _ rfl) id
                       have hs1 := (HSD.out.alloc (.cells #[.int .i64 1, .string g1, .string g2, .int .i64 g3, .int .i64 g4, .bool g5, .bool g6, .bool g7, .string p2, .int .i64 p3] 87)).fr0 hf
                       have HB1 := Lib.hid hb1
                       have HS1 := Lib.hid hs1
                       clear hb1 hs1)
                    | (go_at_call 55; refine (HCB.out _ _ HB1.out HS1.out).mono ?_; rintro e w2 ⟨rfl, hf2⟩))
                  go_ret
                  exact ⟨by rw [HSUB.out _ HTA2.out rfl]; rfl, ((HF.out.alloc _).trans0 hf).trans0 hf2⟩
              · rw [ht1] at hca HTA'
                have HCA := Lib.hid hca
                have HTA2 := Lib.hid HTA'
                clear hca ht1 hcb HTA'
                go_wp2_with (go_at_call 55; refine (HCA.out _ (alloc_at _ _ _ rfl) (HST.out.alloc _)).mono ?_; rintro e w1 ⟨rfl, hf⟩)
                go_ret
                exact ⟨by rw [HSUB.out _ HTA2.out rfl]; rfl, (HF.out.alloc _).trans0 hf⟩
            · have h1' : (p1 == 1) = false := by simpa using h1
              go_wp2
              go_roundg g
              case rel => exact HN.out _ (by rw [HTA.out, h1']; rfl) (HF.out.alloc _)
              case measure => omega
      | succ g =>
        obtain ⟨gb, go, rfl⟩ := HA.out (by omega)
        obtain ⟨p, hx⟩ : ∃ p, l[i]? = some p := ⟨_, List.getElem?_eq_getElem (by omega)⟩
        have hvr := HV.out.fr0 HF.out
        have x0 := hvr.cell0 opC_length i hx rfl
        have x1 := hvr.cell opC_length i 1 hx rfl
        have x2 := hvr.cell opC_length i 2 hx rfl
        have x3 := hvr.cell opC_length i 3 hx rfl
        have x4 := hvr.cell opC_length i 4 hx rfl
        have x5 := hvr.cell opC_length i 5 hx rfl
        have x6 := hvr.cell opC_length i 6 hx rfl
        have x7 := hvr.cell opC_length i 7 hx rfl
        have x8 := hvr.cell opC_length i 8 hx rfl
        have x9 := hvr.cell opC_length i 9 hx rfl
        have hil : (i : Int) < (l.length : Int) := by omega
        have hone := fun W => one_calls W p (HKS.out p (List.mem_of_getElem? hx))
        unfold opV at hone
        by_cases hp : oneE p = 0
        · rw [hp] at hone
          have Hx := Lib.hid hx
          have Hp := Lib.hid hp
          have Ho := Lib.hid hone
          clear hx hp hvr hone
          go_wp2_with (go_at_call 52; refine (Ho.out _).mono ?_; rintro e w1 ⟨rfl, hf⟩)
          go_roundg g
          case rel => exact ⟨i + 1, by go_num, by omega, Lib.hid (fun j hj q hq => by
            by_cases hji : j = i
            · subst hji; rw [Hx.out] at hq; cases hq; exact Hp.out
            · exact HJ.out j (by omega) q hq), Lib.hid ((HF.out.alloc _).trans0 hf)⟩
          case measure => omega
        · have hp' : (oneE p == 0) = false := by simpa using hp
          have hE2 : checkE l = oneE p := by
            rw [HE.out]
            have : l.find? (fun o => oneE o != 0) = some p := by
              rw [List.find?_eq_some_iff_getElem]
              have hil' : i < l.length := by omega
              refine ⟨by simpa using hp, i, hil', (List.getElem?_eq_some_iff.1 hx).2, fun j hj => ?_⟩
              have := HJ.out j hj _ (List.getElem?_eq_getElem (by omega))
              simp [this]
            rw [this]
          have HE2 := Lib.hid hE2
          have Ho := Lib.hid hone
          generalize oneE p = ep at *
          clear hx hp hvr hone hE2
          go_wp2_with (go_at_call 52; refine (Ho.out _).mono ?_; rintro e w1 ⟨rfl, hf⟩)
          go_ret
          exact ⟨by rw [HE2.out]; rfl, (HF.out.alloc _).trans0 hf⟩
end Go.Proofs.Ythljnnjpmdgkoaa
