/- slices.Sort over numbers by the shelf: the same slice, rising. The condition: the slice lies in memory. -/
import Derived.Test.YtlomeohcgjgpjaaLays
import Derived.Test.YtlomeohcgjgpjaaLeaM
namespace Go.Proofs.Ytlomeohcgjgpjaa
open Go Go.Proofs Go.RowKit Go.Sort
set_option maxRecDepth 100000

/-- A world behind a sort of flat cells. -/
theorem row_fr (w : World) (blk off n : Nat) (F : Array Value) (os : Array Obj) : Fr (fun b => b = blk) w (grow (putRow id (Sort.ahead w n) blk off F) os) := by
  refine ⟨rfl, rfl, rfl, ?_, fun k hk hn => ?_⟩
  · simp [grow, putRow, mapBlock, Sort.ahead]
  · rw [heap_grow_old _ _ (by simpa using hk)]
    have : blk ≠ k := fun e => hn e.symm
    simp [putRow, mapBlock, Sort.ahead, Array.getElem?_modify, this]
theorem row_sl {α : Type} {f : α → List Value} {sz e : Nat} (hf : ∀ x, (f x).length = sz) {w : World} {blk off cap n : Nat} {L L' : List α} {os : Array Obj} (h : SlF w e sz f (.slice (some ⟨blk, off, none⟩) L.length cap) L) (hl : L'.length = L.length) :
    SlF (grow (putRow id (Sort.ahead w n) blk off (L'.flatMap f).toArray) os) e sz f (.slice (some ⟨blk, off, none⟩) L.length cap) L' := by
  have hF := flat_length hf L'
  rcases h.2 with ⟨h0, _⟩ | ⟨g, o, cap', cur, hv, hg, h2, h3, h4, h5⟩
  · cases h0
  · simp only [Value.slice.injEq, Option.some.injEq, Addr.mk.injEq, and_true] at hv
    obtain ⟨⟨rfl, rfl⟩, _, rfl⟩ := hv
    have hblk := heap_lt hg
    have hn : (grow (putRow id (Sort.ahead w n) blk off (L'.flatMap f).toArray) os).heap[blk]? = some (.cells (putCells id off (L'.flatMap f).toArray cur) e (0, 0)) := by
      rw [heap_grow_old _ _ (by simpa using hblk)]
      simp [putRow, mapBlock, Sort.ahead, Array.getElem?_modify, hg, onCells]
    have hle : L.length * sz ≤ cap * sz := Nat.mul_le_mul_right _ h2
    refine ⟨by rw [hl] at *; exact hF, .inr ⟨blk, off, cap, _, by rw [hl], hn, by rw [hl]; exact h2, h3, by simp [putCells]; omega, ?_⟩⟩
    apply List.ext_getElem?
    intro j
    rw [hl]
    by_cases hj : j < L.length * sz
    · rw [List.getElem?_take, if_pos hj, List.getElem?_drop, Array.getElem?_toList]
      have hc : off + j < cur.size := by omega
      simp only [putCells, Array.getElem?_mapIdx, Array.getElem?_eq_getElem hc, Option.map_some, List.size_toArray]
      rw [if_pos (by rw [hF, hl]; omega), show off + j - off = j from by omega]
      have hjF : j < (L'.flatMap f).length := by rw [hF, hl]; exact hj
      rw [List.getElem?_eq_getElem hjF]
      simp
      rw [List.getElem?_eq_getElem hjF]; rfl
    · rw [List.getElem?_eq_none (by rw [List.length_take]; omega), List.getElem?_eq_none (by rw [hF, hl]; omega)]
theorem putCells_ints (off : Nat) (zs : List Int) (cur : Array Value) : putCells (Value.int .i64) off zs.toArray cur = putCells id off (zs.flatMap int1).toArray cur := by
  have hlen : (zs.flatMap int1).length = zs.length := by rw [flat_length int1_length]; omega
  apply Array.ext_getElem?
  intro k
  simp only [putCells, Array.getElem?_mapIdx, List.size_toArray, hlen]
  cases cur[k]? with
  | none => rfl
  | some y =>
    simp only [Option.map_some]
    by_cases hr : off ≤ k ∧ k < off + zs.length
    · rw [if_pos hr, if_pos hr]
      have h1 : k - off < zs.length := by omega
      have h2 : (zs.flatMap int1)[k - off]? = some (.int .i64 zs[k - off]) := by
        have := flat_get int1_length zs (k - off) 0 (by omega)
        rw [Nat.mul_one, Nat.add_zero] at this
        rw [this, List.getElem?_eq_getElem h1]; rfl
      simp [h1]
      rw [h2]; rfl
    · rw [if_neg hr, if_neg hr]
theorem putRow_ints (w : World) (blk off : Nat) (zs : List Int) : putRow (Value.int .i64) w blk off zs.toArray = putRow id w blk off (zs.flatMap int1).toArray := by
  unfold putRow
  rw [show putCells (Value.int .i64) off zs.toArray = putCells id off (zs.flatMap int1).toArray from funext fun c => putCells_ints off zs c]
def sortI (zs : List Int) : List Int := zs.mergeSort fun x y => decide (x ≤ y)
theorem sortI_mem {zs : List Int} {x : Int} : x ∈ sortI zs ↔ x ∈ zs := List.mem_mergeSort
theorem sortI_rise {zs : List Int} (hn : zs.Nodup) : (sortI zs).Pairwise (· < ·) := by
  have h1 : (sortI zs).Pairwise fun x y => decide (x ≤ y) = true := List.pairwise_mergeSort (fun a b c h1 h2 => by simp only [decide_eq_true_eq] at *; omega) (fun a b => by simp only [Bool.or_eq_true, decide_eq_true_eq]; omega) zs
  have h2 : (sortI zs).Nodup := (List.mergeSort_perm zs _).nodup_iff.2 hn
  exact (h1.and h2).imp fun {a b} ⟨h3, h4⟩ => by simp only [decide_eq_true_eq] at h3; omega
set_option maxHeartbeats 1000000 in
theorem sort_calls (w : World) (v : Value) (zs : List Int) (hv : SlF w 3 1 int1 v zs) (hl : zs.length ≤ 1099511627) :
    Calls Try.prog 38 #[v] w fun e w' => e = .returned (.tuple #[]) ∧ SlF w' 3 1 int1 v (sortI zs) ∧ Fr (fun b => v.ownBlock = some b) w w' := by
  obtain ⟨a, cap, rfl, h1, h2, h3⟩ := hv.shape
  by_cases h0 : zs.length = 0
  · have hz : zs = [] := List.eq_nil_of_length_eq_zero h0
    subst hz
    exact (AnyG.slices_Sort_int_none laySort a cap w).mono fun _ _ ⟨e1, e2⟩ => ⟨e1, by subst e2; rw [show sortI [] = [] from by simp [sortI]]; exact hv, by subst e2; exact Fr.refl _ _⟩
  · obtain ⟨g, o, rfl⟩ := h3 (by omega)
    have hH : Holds (Value.int .i64) w g o zs.toArray := fun j hj => by
      rw [List.size_toArray] at hj
      refine ⟨?_, hv.free _⟩
      have := hv.cell1 int1_length j (List.getElem?_eq_getElem hj) rfl
      rw [this]
      simp [hj]
    refine (AnyG.slices_Sort_int laySort g o cap zs w hH (hv.lt g rfl) (by omega)).mono ?_
    rintro e w' ⟨e1, n, os, rfl⟩
    have hsl : (sortI zs).length = zs.length := List.length_mergeSort zs
    rw [putRow_ints]
    exact ⟨e1, row_sl int1_length hv hsl, (row_fr w g o n _ os).mono fun b _ e => by rw [e]; rfl⟩
end Go.Proofs.Ytlomeohcgjgpjaa
