/- Own law: the builtin clear on a slice whose elements have any number of cells. No condition. -/
import Derived.Test.YtlomeohcgjgpjaaLib2
namespace Go.Proofs.Ytlomeohcgjgpjaa
open Go Go.RowKit

theorem zeroCells_mem {z : Array Value} {n : Nat} {v : Value} (h : v ∈ (Builtin.zeroCells z n).toList) : ∃ i, i < z.size ∧ v = z[i]! := by
  unfold Builtin.zeroCells at h
  simp only [Array.toList_map, List.mem_map, Array.toList_range, List.mem_range] at h
  obtain ⟨i, hi, rfl⟩ := h
  rcases Nat.eq_zero_or_pos z.size with h0 | h0
  · rw [h0] at hi; omega
  · exact ⟨i % z.size, Nat.mod_lt _ h0, rfl⟩
theorem zeroCells_length (z : Array Value) (n : Nat) : (Builtin.zeroCells z n).toList.length = n * z.size := by
  unfold Builtin.zeroCells
  simp

theorem run_clear_sl {P : Program} (w : World) (t e ty : TypeId) (z : Value) (ht : P.underlying t = some (.slice e)) (hv : ∀ w, (zeroValue e).run P w = .ok z w) (h1 : ∀ i, i < z.cells.size → z.cells[i]!.oneCell' = true) (g o n c : Nat) (cur : Array Value) (et : TypeId)
    (hg : w.heap[g]? = some (.cells cur et (0, 0))) (hfit : o + n * z.cells.size ≤ cur.size) :
    ∃ w', (Builtin.clear_ #[t] ty #[.slice (some ⟨g, o, none⟩) n c]).run P w = .ok (.tuple #[]) w' ∧
      w'.heap[g]? = some (.cells (cur.toList.take o ++ (Builtin.zeroCells z.cells n).toList ++ cur.toList.drop (o + n * z.cells.size)).toArray et (0, 0)) ∧ w.grownBy w' (some g) := by
  have hl := zeroCells_length z.cells n
  have hst := run_storeCells_at P g o et (Builtin.zeroCells z.cells n).toList 0 cur w hg (by rw [hl]; simpa using hfit) (fun v hv' => by obtain ⟨i, hi, rfl⟩ := zeroCells_mem hv'; exact h1 i hi)
  cases n with
  | zero =>
    refine ⟨w, by simp [Builtin.clear_, run_underlying ht], ?_, ⟨rfl, rfl, rfl, Nat.le_refl _, fun _ _ _ => rfl⟩⟩
    have h0 : (Builtin.zeroCells z.cells 0).toList = [] := List.eq_nil_of_length_eq_zero (by rw [zeroCells_length]; simp)
    rw [h0, hg]
    simp
  | succ m =>
    refine ⟨w.setRow g (cur.toList.take o ++ (Builtin.zeroCells z.cells (m + 1)).toList ++ cur.toList.drop (o + (m + 1) * z.cells.size)).toArray, ?_, setRow_heap w g cur _ et _ hg, ⟨rfl, rfl, rfl, by simp, fun k _ hk => setRow_other w g k _ (fun e => hk (by rw [e]))⟩⟩
    rw [hl] at hst
    simp [Builtin.clear_, run_underlying ht, hv, hst]

theorem wpList_clear {P : Program} {w : World} {ops : Array Oper} {rest : List Oper} {op : Oper} {a : Act} {Q : Exit → Act → World → Prop} (hgd : op.guard = none) (s : Operand) (t e : TypeId) (z : Value)
    (ho : op.op = .call { callee := .builtin .clear, args := #[s], argTypes := #[t] }) (ht : P.underlying t = some (.slice e)) (hv : ∀ w, (zeroValue e).run P w = .ok z w) (h1 : ∀ i, i < z.cells.size → z.cells[i]!.oneCell' = true)
    (g o n c : Nat) (cur : Array Value) (et : TypeId) (hs : a.eval s = .slice (some ⟨g, o, none⟩) n c) (hg : w.heap[g]? = some (.cells cur et (0, 0))) (hfit : o + n * z.cells.size ≤ cur.size)
    (h : ∀ w', w'.heap[g]? = some (.cells (cur.toList.take o ++ (Builtin.zeroCells z.cells n).toList ++ cur.toList.drop (o + n * z.cells.size)).toArray et (0, 0)) → w.grownBy w' (some g) → wpList P ops Q rest (a.put op.dst (.tuple #[])) w') : wpList P ops Q (op :: rest) a w := by
  refine wpList_plain hgd fun _ hK => ?_
  obtain ⟨w', hr, h2, h3⟩ := run_clear_sl (P := P) w t e op.type z ht hv h1 g o n c cur et hg hfit
  unfold Oper.wp execOp
  simp only [ho, resolve, invoke, builtin, Sem.run_bind, Sem.run_pure, Result.andThen_ok, List.map_toArray, List.map_cons, List.map_nil, hs, hr]
  exact hK _ _ (h w' h2 h3)

/-- What clear leaves of a list: the elements ahead of the place k. -/
theorem SlF.cleared {α : Type} {f : α → List Value} {w w' : World} {e sz g o cap : Nat} {L : List α} (hf : ∀ x, (f x).length = sz) (h : SlF w e sz f (.slice (some ⟨g, o, none⟩) L.length cap) L) (k : Nat) (hk : k ≤ L.length)
    (cur : Array Value) (hg : w.heap[g]? = some (.cells cur e (0, 0))) (zs : List Value) (hz : zs.length = (L.length - k) * sz)
    (hg' : w'.heap[g]? = some (.cells (cur.toList.take (o + k * sz) ++ zs ++ cur.toList.drop (o + k * sz + (L.length - k) * sz)).toArray e (0, 0))) :
    SlF w' e sz f (.slice (some ⟨g, o, none⟩) k cap) (L.take k) := by
  have hlen : (L.take k).length = k := by simp; omega
  unfold SlF
  rw [hlen]
  refine ⟨by rw [flat_length hf, hlen], ?_⟩
  rcases h.2 with ⟨h0, _⟩ | ⟨g', o', cap', cur', hv, hc, h1, h2, h3, h4⟩
  · cases h0
  · cases hv
    rw [hg] at hc
    cases hc
    have hL : L.length * sz ≤ cap * sz := Nat.mul_le_mul_right _ h1
    have hkm : k * sz + (L.length - k) * sz = L.length * sz := by rw [← Nat.add_mul]; congr 1; omega
    have hcl : cur.toList.length = cur.size := by simp
    refine .inr ⟨g, o, cap, _, rfl, hg', by omega, h2, ?_, ?_⟩
    · simp only [List.size_toArray, List.length_append, List.length_take, List.length_drop, hz, hcl]
      omega
    · rw [← flat_take hf, ← h4]
      simp only [List.append_assoc]
      rw [List.drop_append_of_le_length (by rw [List.length_take]; omega), List.take_append_of_le_length (by rw [List.length_drop, List.length_take]; omega), List.drop_take, List.take_take, List.take_take]
      congr 1
      have : k * sz ≤ L.length * sz := Nat.mul_le_mul_right _ hk
      omega
end Go.Proofs.Ytlomeohcgjgpjaa
