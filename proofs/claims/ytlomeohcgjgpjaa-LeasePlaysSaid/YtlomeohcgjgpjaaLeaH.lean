/- The queue's methods (Len, Less, Swap) and how they are reached through the interface. The condition: the queue lies in memory. -/
import Derived.Test.YtlomeohcgjgpjaaLeaM
import Derived.Test.YtlomeohcgjgpjaaProg
import Derived.Deep.RegionHeld3
import Derived.Deep.RegionLaw
import Derived.Deep.DeepCutAuto
import Derived.BigRegion
namespace Go.Proofs.Ytlomeohcgjgpjaa
open Go Go.Proofs Go.RowKit
set_option maxRecDepth 100000

/-- An entry stored at an offset of a block. -/
def layE (W : World) (g o : Nat) (x : Ent) : World := (W.setCell ⟨g, o, none⟩ (.int .i64 x.1)).setCell ⟨g, o + 1, none⟩ (.int .i64 x.2)
theorem layE_sl {W : World} {g o cap : Nat} {q : List Ent} (h : SlF W 82 2 entC (.slice (some ⟨g, o, none⟩) q.length cap) q) (i : Nat) {y : Ent} (hy : q[i]? = some y) (x : Ent) :
    SlF (layE W g (o + i * 2) x) 82 2 entC (.slice (some ⟨g, o, none⟩) q.length cap) (q.set i x) := by
  have h1 := h.set entC_length i 0 (by omega) y (x.1, y.2) (.int .i64 x.1) hy rfl
  have h2 := (show SlF _ 82 2 entC (.slice (some ⟨g, o, none⟩) (q.set i (x.1, y.2)).length cap) (q.set i (x.1, y.2)) from by rw [List.length_set]; exact h1).set entC_length i 1 (by omega) (x.1, y.2) x (.int .i64 x.2) (List.getElem?_set_self (List.getElem?_eq_some_iff.1 hy).1) rfl
  rw [List.set_set, List.length_set] at h2
  exact h2
theorem layE_fr {S : Nat → Prop} {a W : World} (h : Fr S a W) (g o : Nat) (x : Ent) (hg : S g) : Fr S a (layE W g o x) := (h.setCell (p := ⟨g, o, none⟩) (.inl hg) _).setCell (p := ⟨g, o + 1, none⟩) (.inl hg) _
theorem qLen_calls (w : World) (a : Option Addr) (n cap : Nat) : Calls Try.prog 113 #[.slice a n cap] w fun e w' => e = .returned (.int .i64 n) ∧ w = w' := by
  go_enter Try.func113, Try.ntmps113
  go_wp2
  go_ret
  exact ⟨rfl, rfl⟩
set_option maxHeartbeats 1000000 in
theorem qLess_calls (w : World) (qv : Value) (q : List Ent) (hq : SlF w 82 2 entC qv q) (hl : q.length ≤ 1099511627) (i j : Nat) (x y : Ent) (hx : q[i]? = some x) (hy : q[j]? = some y) :
    Calls Try.prog 114 #[qv, .int .i64 i, .int .i64 j] w fun e w' => e = .returned (.bool (decide (x.1 < y.1))) ∧ ∃ n, w' = w.drewN n := by
  have hi := (List.getElem?_eq_some_iff.1 hx).1
  have hj := (List.getElem?_eq_some_iff.1 hy).1
  obtain ⟨a, cap, rfl, h1, h2, h3⟩ := hq.shape
  obtain ⟨g, o, rfl⟩ := h3 (by omega)
  have c1 := hq.cell0 entC_length i hx rfl
  have c2 := hq.cell0 entC_length j hy rfl
  unfold maxLen at h2
  generalize q.length = n at *
  clear hq hx hy h3
  go_enter Try.func114, Try.ntmps114
  go_wp2
  go_quiet (fail)
  go_wp2
  go_ret
  exact ⟨rfl, _, rfl⟩
set_option maxHeartbeats 1000000 in
theorem qSwap_calls (w : World) (qv : Value) (q : List Ent) (hq : SlF w 82 2 entC qv q) (hl : q.length ≤ 1099511627) (i j : Nat) (hi : i < q.length) (hj : j < q.length) :
    Calls Try.prog 115 #[qv, .int .i64 i, .int .i64 j] w fun e w' => e = .returned (.tuple #[]) ∧ SlF w' 82 2 entC qv (swp q i j) ∧ Fr (fun b => qv.ownBlock = some b) w w' := by
  obtain ⟨a, cap, rfl, h1, h2, h3⟩ := hq.shape
  obtain ⟨g, o, rfl⟩ := h3 (by omega)
  obtain ⟨x, hx⟩ : ∃ x, q[i]? = some x := ⟨_, List.getElem?_eq_getElem hi⟩
  obtain ⟨y, hy⟩ : ∃ y, q[j]? = some y := ⟨_, List.getElem?_eq_getElem hj⟩
  obtain ⟨c1, c2⟩ := hq.cells2 entC_length i hx rfl
  obtain ⟨d1, d2⟩ := hq.cells2 entC_length j hy rfl
  have hfz := fun k => hq.free k
  unfold maxLen at h2
  have s1 := layE_sl hq i hx y
  have hxy : (q.set i y)[j]? = some y := by
    by_cases e : i = j
    · subst e; exact List.getElem?_set_self hi
    · rw [List.getElem?_set_ne e]; exact hy
  have s2 := layE_sl (by rw [List.length_set]; exact s1) j hxy x
  have hsw : swp q i j = (q.set i y).set j x := by unfold swp; rw [hx, hy]; rfl
  rw [List.length_set] at s2
  have hfr := layE_fr (layE_fr (Fr.refl (fun b => b = g) w) g (o + i * 2) y rfl) g (o + j * 2) x rfl
  rw [hsw]
  unfold layE at s2 hfr
  obtain ⟨x1, x2⟩ := x
  obtain ⟨y1, y2⟩ := y
  have lg := hq.lt g rfl
  have hxe : i = j → (x1, x2) = (y1, y2) := fun e => by rw [e, hy] at hx; exact (Option.some.inj hx).symm
  have HXE := Lib.hid hxe
  clear hxe
  dsimp only at s2 hfr c1 c2 d1 d2
  have HS := Lib.hid s2
  have HF := Lib.hid hfr
  generalize q.length = n at *
  clear hq hx hy h3 s1 s2 hfr hxy hsw
  by_cases hij : i = j
  · subst hij
    cases HXE.out rfl
    go_enter Try.func115, Try.ntmps115
    go_wp2_with fail
    go_region
    go_wp2
    refine bodyPost_end (results_none rfl _ _ _) rfl ?_
    exact ⟨rfl, HS.out.drew, HF.out.drew.mono fun b _ h => by rw [h]; rfl⟩
  · have e1 : ¬ o + i * 2 = o + j * 2 := by omega
    have e2 : ¬ o + i * 2 + 1 = o + j * 2 := by omega
    have e3 : ¬ o + i * 2 = o + j * 2 + 1 := by omega
    go_enter Try.func115, Try.ntmps115
    go_wp2_with fail
    go_region
    go_wp2
    refine bodyPost_end (results_none rfl _ _ _) rfl ?_
    exact ⟨rfl, HS.out.drew, HF.out.drew.mono fun b _ h => by rw [h]; rfl⟩
end Go.Proofs.Ytlomeohcgjgpjaa
