/- slices.Reverse over pairs of keys: the list is turned in place. The condition: it is not too long. -/
import Derived.Test.YthljnnjpmdgkoaaStore
import Derived.Test.YthljnnjpmdgkoaaBetween
import Derived.BigRegion
namespace Go.Proofs.Ythljnnjpmdgkoaa
open Go Go.Proofs Go.RowKit
set_option maxRecDepth 100000

/-- A whole pair laid down in a list. -/
def layKv (w : World) (g o : Nat) (y : Kv) : World :=
  (((((w.setCell ⟨g, o, none⟩ (.string y.key)).setCell ⟨g, o + 1, none⟩ (.string y.value)).setCell ⟨g, o + 2, none⟩ (.int .i64 y.create)).setCell ⟨g, o + 3, none⟩ (.int .i64 y.mod)).setCell ⟨g, o + 4, none⟩ (.int .i64 y.version)).setCell ⟨g, o + 5, none⟩ (.int .i64 y.lease)
theorem layKv_sl {w : World} {g o cap : Nat} {L : List Kv} (h : SlF w 57 6 kvC (.slice (some ⟨g, o, none⟩) L.length cap) L) (i : Nat) {x : Kv} (hx : L[i]? = some x) (y : Kv) :
    SlF (layKv w g (o + i * 6) y) 57 6 kvC (.slice (some ⟨g, o, none⟩) L.length cap) (L.set i y) := by
  have hi := (List.getElem?_eq_some_iff.1 hx).1
  have step : ∀ {w : World} {M : List Kv} {z : Kv} (j : Nat) (u : Value) (z' : Kv), j < 6 → M.length = L.length → SlF w 57 6 kvC (.slice (some ⟨g, o, none⟩) L.length cap) M → M[i]? = some z → kvC z' = (kvC z).set j u →
      SlF (w.setCell ⟨g, o + i * 6 + j, none⟩ u) 57 6 kvC (.slice (some ⟨g, o, none⟩) L.length cap) (M.set i z') := by
    intro w M z j u z' hj hM hs hz he
    rw [← hM] at hs ⊢
    exact hs.set kvC_length i j hj z z' u hz he
  have s0 := step 0 (.string y.key) ({ x with key := y.key }) (by omega) rfl h hx rfl
  have s1 := step (z := { x with key := y.key }) 1 (.string y.value) ({ x with key := y.key, value := y.value }) (by omega) (by simp) s0 (by simp [hi]) rfl
  have s2 := step (z := { x with key := y.key, value := y.value }) 2 (.int .i64 y.create) ({ x with key := y.key, value := y.value, create := y.create }) (by omega) (by simp) s1 (by simp [hi]) rfl
  have s3 := step (z := { x with key := y.key, value := y.value, create := y.create }) 3 (.int .i64 y.mod) ({ x with key := y.key, value := y.value, create := y.create, mod := y.mod }) (by omega) (by simp) s2 (by simp [hi]) rfl
  have s4 := step (z := { x with key := y.key, value := y.value, create := y.create, mod := y.mod }) 4 (.int .i64 y.version) ({ x with key := y.key, value := y.value, create := y.create, mod := y.mod, version := y.version }) (by omega) (by simp) s3 (by simp [hi]) rfl
  have s5 := step (z := { x with key := y.key, value := y.value, create := y.create, mod := y.mod, version := y.version }) 5 (.int .i64 y.lease) (y) (by omega) (by simp) s4 (by simp [hi]) rfl
  simpa [layKv, List.set_set] using s5
theorem layKv_fr {S : Nat → Prop} {a w : World} (h : Fr S a w) (g o : Nat) (y : Kv) (hg : S g) : Fr S a (layKv w g o y) := by
  unfold layKv
  exact (((((h.setCell (.inl hg) _).setCell (.inl hg) _).setCell (.inl hg) _).setCell (.inl hg) _).setCell (.inl hg) _).setCell (.inl hg) _

/-- A list turned as far as the place i: what stands at k. -/
def Turned (L M : List Kv) (i : Nat) : Prop := M.length = L.length ∧ ∀ k, k < L.length → M[k]? = if k < i ∨ L.length - i ≤ k then L[L.length - 1 - k]? else L[k]?
theorem Turned.start (L : List Kv) : Turned L L 0 := ⟨rfl, fun k hk => by rw [if_neg (by omega)]⟩
theorem Turned.done {L M : List Kv} {i : Nat} (h : Turned L M i) (hi : L.length ≤ 2 * i + 1) : M = L.reverse := by
  refine List.ext_getElem? fun k => ?_
  by_cases hk : k < L.length
  · rw [h.2 k hk, List.getElem?_reverse hk]
    split
    · rfl
    · rename_i hn
      congr 1; omega
  · rw [List.getElem?_eq_none (by rw [h.1]; omega), List.getElem?_eq_none (by simp; omega)]
theorem Turned.next {L M : List Kv} {i j : Nat} (h : Turned L M i) (hij : i + j + 1 = L.length) (hlt : i < j) {x y : Kv} (hx : L[i]? = some x) (hy : L[j]? = some y) : Turned L ((M.set i y).set j x) (i + 1) := by
  refine ⟨by simp [h.1], fun k hk => ?_⟩
  have hM := h.1
  by_cases hkj : k = j
  · subst hkj
    rw [List.getElem?_set_self (by simp; omega), if_pos (by omega), show L.length - 1 - k = i by omega, hx]
  · rw [List.getElem?_set_ne (fun e => hkj e.symm)]
    by_cases hki : k = i
    · subst hki
      rw [List.getElem?_set_self (by omega), if_pos (by omega), show L.length - 1 - k = j by omega, hy]
    · rw [List.getElem?_set_ne (fun e => hki e.symm), h.2 k hk]
      by_cases hc : k < i ∨ L.length - i ≤ k
      · rw [if_pos hc, if_pos (by omega)]
      · rw [if_neg hc, if_neg (by omega)]
theorem Turned.at {L M : List Kv} {i k : Nat} (h : Turned L M i) (h1 : i ≤ k) (h2 : k + i < L.length) : M[k]? = L[k]? := by rw [h.2 k (by omega), if_neg (by omega)]

set_option maxHeartbeats 4000000 in
theorem reverse_calls (w : World) (v : Value) (L : List Kv) (hv : SlF w 57 6 kvC v L) (hl : L.length ≤ 1099511627) :
    Calls Try.prog 107 #[v] w fun e w' => (∃ u, e = .returned u) ∧ SlF w' 57 6 kvC v L.reverse ∧ Fr (fun b => v.ownBlock = some b) w w' := by
  obtain ⟨a, cap, rfl, hc1, hc2, ha⟩ := hv.shape
  rcases Nat.eq_zero_or_pos L.length with h0 | hp
  · obtain rfl := List.eq_nil_of_length_eq_zero h0
    have HV := Lib.hid hv
    clear hv ha
    go_enter Try.func107, Try.ntmps107
    go_wp2
    go_loopg [2, 3] 0 (fun g s2 s3 wr => g = 0 ∧ s2 = .int .i64 0 ∧ s3 = .int .i64 (-1) ∧ w = wr)
    case atStart => exact ⟨rfl, rfl, rfl, rfl⟩
    case round =>
      obtain ⟨rfl, rfl, rfl, rfl⟩ := hrel
      go_wp2
      refine bodyPost_end (results_none rfl _ _ _) rfl ?_
      exact ⟨⟨_, rfl⟩, HV.out, Fr.refl _ w⟩
  · obtain ⟨gb, go, rfl⟩ := ha hp
    have HV := Lib.hid hv
    clear hv
    go_enter Try.func107, Try.ntmps107
    go_wp2
    go_loopg [2, 3] L.length (fun g s2 s3 wr => ∃ (i j : Nat) (M : List Kv), s2 = .int .i64 i ∧ s3 = .int .i64 j ∧ i + j + 1 = L.length ∧ i ≤ j + 1 ∧ i + g = L.length ∧ Hid (Turned L M i) ∧ Hid (SlF wr 57 6 kvC (.slice (some ⟨gb, go, none⟩) L.length cap) M) ∧ Hid (Fr (fun b => b = gb) w wr))
    case atStart => exact ⟨0, L.length - 1, L, rfl, by go_num, by omega, by omega, by omega, Lib.hid (Turned.start L), HV, Lib.hid (Fr.refl _ w)⟩
    case round =>
      obtain ⟨i, j, M, rfl, rfl, hij, hle, hi, HT, HS, HF⟩ := hrel
      by_cases hlt : i < j
      · cases gk with
        | zero => omega
        | succ g =>
          have hlt' : (i : Int) < (j : Int) := by omega
          have hiL : (i : Int) < (L.length : Int) := by omega
          have hjL : (j : Int) < (L.length : Int) := by omega
          obtain ⟨x, hx⟩ : ∃ x, L[i]? = some x := ⟨_, List.getElem?_eq_getElem (by omega)⟩
          obtain ⟨y, hy⟩ : ∃ y, L[j]? = some y := ⟨_, List.getElem?_eq_getElem (by omega)⟩
          have hMx := (HT.out.at (k := i) (by omega) (by omega)).trans hx
          have hMy := (HT.out.at (k := j) (by omega) (by omega)).trans hy
          have hsl : SlF wr 57 6 kvC (.slice (some ⟨gb, go, none⟩) M.length cap) M := by rw [HT.out.1]; exact HS.out
          have lgb : gb < wr.heap.size := hsl.lt gb rfl
          obtain ⟨x1, x2, x3, x4, x5, x6⟩ := x
          obtain ⟨y1, y2, y3, y4, y5, y6⟩ := y
          have u0 := hsl.cell0 kvC_length i hMx rfl
          have u1 := hsl.cell kvC_length i 1 hMx rfl
          have u2 := hsl.cell kvC_length i 2 hMx rfl
          have u3 := hsl.cell kvC_length i 3 hMx rfl
          have u4 := hsl.cell kvC_length i 4 hMx rfl
          have u5 := hsl.cell kvC_length i 5 hMx rfl
          have v0 := hsl.cell0 kvC_length j hMy rfl
          have v1 := hsl.cell kvC_length j 1 hMy rfl
          have v2 := hsl.cell kvC_length j 2 hMy rfl
          have v3 := hsl.cell kvC_length j 3 hMy rfl
          have v4 := hsl.cell kvC_length j 4 hMy rfl
          have v5 := hsl.cell kvC_length j 5 hMy rfl
          have hfz : ∀ k, wr.frozen? ⟨gb, k, none⟩ = false := fun k => hsl.free k
          have s1 := layKv_sl hsl i hMx ⟨y1, y2, y3, y4, y5, y6⟩
          have s2 := layKv_sl (L := M.set i ⟨y1, y2, y3, y4, y5, y6⟩) (by rw [List.length_set]; exact s1) j (x := ⟨y1, y2, y3, y4, y5, y6⟩) (by rw [List.getElem?_set_ne (by omega)]; exact hMy) ⟨x1, x2, x3, x4, x5, x6⟩
          have hfr := layKv_fr (layKv_fr HF.out gb (go + i * 6) ⟨y1, y2, y3, y4, y5, y6⟩ rfl) gb (go + j * 6) ⟨x1, x2, x3, x4, x5, x6⟩ rfl
          have HN := Lib.hid (HT.out.next hij hlt hx hy)
          rw [List.length_set, HT.out.1] at s2
          have HS2 := Lib.hid s2
          have HFR := Lib.hid hfr
          clear hx hy hMx hMy hsl s1 s2 hfr
          unfold layKv at HS2 HFR
          dsimp only at HS2 HFR
          go_wp2_with fail
          go_region
          go_wp2
          go_roundg g
          case rel => exact ⟨i + 1, j - 1, _, by go_num, by go_num, by omega, by omega, by omega, HN, Lib.hid HS2.out.drew, Lib.hid HFR.out.drew⟩
          case measure => omega
      · have hlt' : ¬ (i : Int) < (j : Int) := by omega
        go_wp2
        refine bodyPost_end (results_none rfl _ _ _) rfl ?_
        exact ⟨⟨_, rfl⟩, by rw [← HT.out.done (by omega)]; exact HS.out, HF.out.mono fun b _ h => by rw [h]; rfl⟩
end Go.Proofs.Ythljnnjpmdgkoaa
