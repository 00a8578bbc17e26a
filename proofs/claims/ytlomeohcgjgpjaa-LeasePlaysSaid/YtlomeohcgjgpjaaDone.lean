/- The law's done: a table behind calls, up to 200. The condition: the calls' cells are read alone. -/
import Derived.Test.YtlomeohcgjgpjaaArgs
import Derived.Test.YtlomeohcgjgpjaaRead
namespace Go.Proofs.Ytlomeohcgjgpjaa
open Go Go.Proofs Go.RowKit
set_option maxRecDepth 100000

/-- The table that the document has behind up to 200 calls. -/
def doneR (l : List LOp) : List LV := stepsR [] (l.take 200)
theorem steps_take {l : List LOp} {i : Nat} {o : LOp} (h : l[i]? = some o) : stepsR [] (l.take (i + 1)) = (stepR (stepsR [] (l.take i)) o).2 := by
  unfold stepsR
  rw [List.take_add_one, h, List.foldl_append]
  rfl
theorem frn {F : Nat → Prop} {a b c : World} (h : Fr No a b) (k : Fr F b c) (hF : ∀ j, F j → a.heap.size ≤ j) : Fr No a c :=
  h.trans k fun j hj hf => absurd (hF j hf) (by omega)
/-- Behind the law's done. -/
def DoneTo (w w' : World) (l : List LOp) (e : Ending) : Prop := ∃ t F, e = .returned (.pointer (some ⟨t, 0, none⟩)) ∧ Lea 200 w' t (doneR l) F ∧ Fr No w w' ∧ ∀ b, F b → w.heap.size ≤ b
set_option maxHeartbeats 4000000 in
theorem done_calls (w : World) (v : Value) (l : List LOp) (hv : SlR w 4 opC v l) (hok : OpsOk l) :
    Calls Try.prog 10 #[v] w fun e w' => DoneTo w w' l e := by
  obtain ⟨a, cap, rfl, h1, h2, h3⟩ := hv.shape
  have HV := Lib.hid hv
  have HOK := Lib.hid hok
  have H3 := Lib.hid h3
  have hN := New_calls w
  unfold maxLen at h2
  clear hv hok h3
  go_enter Try.func10, Try.ntmps10
  go_wp2_with (go_at_call 22; (with_reducible refine hN.mono ?_); rintro e w1 ⟨t, F0, rfl, hL, hf1, hF0⟩; have HL := Lib.hid hL; have HF1 := Lib.hid hf1; have HF0 := Lib.hid hF0; clear hL hf1 hF0)
  go_loopg [4] l.length (fun g s4 wr => ∃ (i : Nat) (F : Nat → Prop), s4 = .int .i64 i ∧ i + g = l.length ∧ i ≤ 200 ∧ Hid (Lea i wr t (stepsR [] (l.take i)) F) ∧ Hid (Fr No w wr) ∧ Hid (∀ b, F b → w.heap.size ≤ b))
  case atStart => exact ⟨0, F0, rfl, by simp, by omega, HL, HF1, HF0⟩
  case round =>
    obtain ⟨i, F, rfl, hi, hi2, HLea, HF, HB⟩ := hrel
    by_cases hend : i < l.length ∧ i < 200
    · obtain ⟨hil, hi9⟩ := hend
      cases gk with
      | zero => omega
      | succ g =>
        obtain ⟨gb, go, rfl⟩ := H3.out (by omega)
        obtain ⟨o, hx⟩ : ∃ o, l[i]? = some o := ⟨_, List.getElem?_eq_getElem hil⟩
        have hst := steps_take hx
        obtain ⟨c0, c1, c2, c3⟩ := (HV.out.fr0 HF.out).cells4 opC_length i hx rfl
        have hdo := do_at (by omega) HLea.out o (HOK.out o (List.mem_of_getElem? hx))
        have HDO := Lib.hid hdo
        have HST := Lib.hid hst
        have hili : (i : Int) < (l.length : Int) := by omega
        clear hx hst hdo
        unfold opV at HDO
        go_wp2_with (go_at_call 12; (with_reducible refine HDO.out.mono ?_); rintro e w2 ⟨a1, c1, a2, c2, rfl, HD⟩)
        obtain ⟨F', g1, g2, g3, _⟩ := HD.out.2
        have hfs := HF.out.size
        go_roundg g
        case measure => omega
        exact ⟨i + 1, F', rfl, by omega, by omega, Lib.hid (by rw [HST.out]; exact g1), Lib.hid (frn HF.out g2 HB.out), Lib.hid fun b hb => (g3 b hb).elim (HB.out b) fun h => by omega⟩
    · have hl2 : l.take i = l.take 200 := by
        by_cases hil : i < l.length
        · rw [show i = 200 from by omega]
        · rw [List.take_of_length_le (by omega), List.take_of_length_le (by omega)]
      have HL2 := Lib.hid hl2
      clear hl2
      by_cases hil : i < l.length
      · have e9 : i = 200 := by omega
        subst e9
        go_wp2
        all_goals first | (exfalso; omega) | skip
        go_ret
        exact ⟨t, F, rfl, by unfold doneR; exact HLea.out, HF.out, HB.out⟩
      · have hili : ¬ (i : Int) < (l.length : Int) := by omega
        go_wp2
        all_goals first | (exfalso; omega) | skip
        go_ret
        exact ⟨t, F, rfl, by unfold doneR; rw [← HL2.out]; exact HLea.out.up (by omega), HF.out, HB.out⟩
end Go.Proofs.Ytlomeohcgjgpjaa
