/- Own lemmas on a range over a map: the iterator's block, what is left. Plain facts; no program. -/
import Derived.Test.YtillejdjghlicaaGreatDoorLib3
import Derived.Maps.RangeRun
namespace Go.Proofs.YtillejdjghlicaaGreatDoor
open Go Go.RowKit Go.WideElems Go.ChangeMaps

theorem setB_other (w : World) (b k : Nat) (o : Obj) (h : k ≠ b) : (ChangeMaps.setBlock w b o).heap[k]? = w.heap[k]? := by
  simp [ChangeMaps.setBlock, Ne.symm h]
theorem setB_at (w : World) (b : Nat) (o : Obj) (h : b < w.heap.size) : (ChangeMaps.setBlock w b o).heap[b]? = some o := by
  simp [ChangeMaps.setBlock, h]
theorem left_nil (es : Array MapEntry) : (leftOf es #[]).size = es.size := by
  unfold leftOf
  rw [Array.filter_eq_self.2 (fun x _ => by simp)]
/-- Behind a step of the iterator. -/
theorem iter_fr {wr w2 : World} {b : Nat} (hw2 : w2 = wr ∨ w2 = wr.drew) (o : Obj) : Fr (fun k => k = b) wr (ChangeMaps.setBlock w2 b o) ∧ (ChangeMaps.setBlock w2 b o).heap.size = wr.heap.size := by
  have hs : (ChangeMaps.setBlock w2 b o).heap.size = wr.heap.size := by rcases hw2 with rfl | rfl <;> simp [ChangeMaps.setBlock]
  rcases hw2 with rfl | rfl
  · exact ⟨⟨rfl, rfl, rfl, Nat.le_of_eq hs.symm, fun k _ hk => setB_other _ _ _ _ hk⟩, hs⟩
  · exact ⟨⟨rfl, rfl, rfl, Nat.le_of_eq hs.symm, fun k _ hk => setB_other _ _ _ _ hk⟩, hs⟩
theorem born_uniq {es : Array MapEntry} (hnd : (es.toList.map (·.born)).Nodup) {x e : MapEntry} (hx : x ∈ es.toList) (he : e ∈ es.toList) (hb : x.born = e.born) : x = e := by
  obtain ⟨i, hi⟩ := List.mem_iff_getElem?.1 hx
  obtain ⟨j, hj⟩ := List.mem_iff_getElem?.1 he
  have hil := (List.getElem?_eq_some_iff.1 hi).1
  have h1 : (es.toList.map (·.born))[i]? = (es.toList.map (·.born))[j]? := by rw [List.getElem?_map, List.getElem?_map, hi, hj]; simp [hb]
  have := (List.getElem?_inj (by simpa using hil) hnd).1 h1
  subst this
  rw [hi] at hj
  exact Option.some.inj hj
theorem key_uniq {es : Array MapEntry} (hnd : (es.toList.map (·.key)).Nodup) {x e : MapEntry} (hx : x ∈ es.toList) (he : e ∈ es.toList) (hb : x.key = e.key) : x = e := by
  obtain ⟨i, hi⟩ := List.mem_iff_getElem?.1 hx
  obtain ⟨j, hj⟩ := List.mem_iff_getElem?.1 he
  have hil := (List.getElem?_eq_some_iff.1 hi).1
  have h1 : (es.toList.map (·.key))[i]? = (es.toList.map (·.key))[j]? := by rw [List.getElem?_map, List.getElem?_map, hi, hj]; simp [hb]
  have := (List.getElem?_inj (by simpa using hil) hnd).1 h1
  subst this
  rw [hi] at hj
  exact Option.some.inj hj
theorem seen_push {es : Array MapEntry} {seen : Array Nat} {e x : MapEntry} (hnd : (es.toList.map (·.born)).Nodup) (he : e ∈ es.toList) (hx : x ∈ es.toList) (hc : (seen.push e.born).contains x.born = true) : seen.contains x.born = true ∨ x = e := by
  rw [contains_push, Bool.or_eq_true] at hc
  rcases hc with hc | hc
  · exact .inl hc
  · exact .inr (born_uniq hnd hx he (by simpa using hc))
theorem seen_old {seen : Array Nat} {b c : Nat} (h : seen.contains c = true) : (seen.push b).contains c = true := by rw [contains_push, h]; rfl
theorem seen_new {seen : Array Nat} {b : Nat} : (seen.push b).contains b = true := by rw [contains_push]; simp
theorem left_done {es : Array MapEntry} {seen : Array Nat} (h : (leftOf es seen).size = 0) : ∀ x ∈ es.toList, seen.contains x.born = true := by
  intro x hx
  cases hc : seen.contains x.born with
  | true => rfl
  | false =>
    have hm : x ∈ leftOf es seen := Array.mem_filter.2 ⟨by simpa using hx, by rw [hc]; rfl⟩
    have := Array.size_pos_of_mem hm
    omega
end Go.Proofs.YtillejdjghlicaaGreatDoor
