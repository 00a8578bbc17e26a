/- Own laws: the builtin copy at elements of any size; maps keyed by ints; loading a whole record. No condition. -/
import Derived.Test.YtlomeohcgjgpjaaLib
namespace Go.Proofs.Ytlomeohcgjgpjaa
open Go Go.RowKit

theorem run_copy_sl {P : Program} (w : World) (dT sT ty elem : TypeId) (i : TypeInfo) (dp sp : Option Addr) (dLen dCap sLen sCap g o : Nat) (cur : Array Value) (t : TypeId) (cs : List Value)
    (hu : P.underlying dT = some (.slice elem)) (hi : P.info? elem = some i) (hg : w.heap[g]? = some (.cells cur t (0, 0))) (hn : cs.length = Nat.min sLen dLen * i.size)
    (hpos : 0 < cs.length → dp = some ⟨g, o, none⟩ ∧ ∃ ad, sp = some ad ∧ ∀ j v, cs[j]? = some v → w.cell? (ad.add j) = some v) (hfit : o + cs.length ≤ cur.size) (h1 : ∀ v ∈ cs, v.oneCell' = true) :
    ∃ w', (Builtin.copy_ #[dT, sT] ty #[.slice dp dLen dCap, .slice sp sLen sCap]).run P w = .ok (goInt (Nat.min sLen dLen)) w' ∧
      w'.heap[g]? = some (.cells (cur.toList.take o ++ cs ++ cur.toList.drop (o + cs.length)).toArray t (0, 0)) ∧ w.grownBy w' (some g) := by
  by_cases h0 : cs.length = 0
  · obtain rfl : cs = [] := List.eq_nil_of_length_eq_zero h0
    refine ⟨w, ?_, by simpa using hg, ⟨rfl, rfl, rfl, Nat.le_refl _, fun _ _ _ => rfl⟩⟩
    have hz : Nat.min sLen dLen * i.size = 0 := by simpa using hn.symm
    cases sp <;> cases dp <;> simp [Builtin.copy_, run_underlying hu, Builtin.lenOf, Builtin.firstCells, sizeOf, typeInfo, hi, hz, storeCells, loadCells, loadCellsFrom]
  · obtain ⟨rfl, ad, rfl, hsrc⟩ := hpos (by omega)
    have hl := run_loadCells_list (P := P) w ad cs hsrc
    have hst := run_storeCells_at P g o t cs 0 cur w hg (by simpa using hfit) h1
    refine ⟨w.setRow g (cur.toList.take o ++ cs ++ cur.toList.drop (o + cs.length)).toArray, ?_, setRow_heap w g cur _ t _ hg, ⟨rfl, rfl, rfl, by simp, fun k _ hk => setRow_other w g k _ (fun e => hk (by rw [e]))⟩⟩
    simp [Builtin.copy_, run_underlying hu, Builtin.lenOf, Builtin.firstCells, sizeOf, typeInfo, hi, ← hn, hl, hst]

theorem wpList_copy_sl {P : Program} {w : World} {ops : Array Oper} {rest : List Oper} {op : Oper} {a : Act} {Q : Exit → Act → World → Prop} (hgd : op.guard = none) (d s : Operand) (dT sT elem : TypeId) (i : TypeInfo)
    (ho : op.op = .call { callee := .builtin .copy, args := #[d, s], argTypes := #[dT, sT] }) (hu : P.underlying dT = some (.slice elem)) (hi : P.info? elem = some i)
    (dp sp : Option Addr) (dLen dCap sLen sCap g o : Nat) (cur : Array Value) (t : TypeId) (cs : List Value) (hd : a.eval d = .slice dp dLen dCap) (hs : a.eval s = .slice sp sLen sCap)
    (hg : w.heap[g]? = some (.cells cur t (0, 0))) (hn : cs.length = Nat.min sLen dLen * i.size)
    (hpos : 0 < cs.length → dp = some ⟨g, o, none⟩ ∧ ∃ ad, sp = some ad ∧ ∀ j v, cs[j]? = some v → w.cell? (ad.add j) = some v) (hfit : o + cs.length ≤ cur.size) (h1 : ∀ v ∈ cs, v.oneCell' = true)
    (h : ∀ w', w'.heap[g]? = some (.cells (cur.toList.take o ++ cs ++ cur.toList.drop (o + cs.length)).toArray t (0, 0)) → w.grownBy w' (some g) → wpList P ops Q rest (a.put op.dst (goInt (Nat.min sLen dLen))) w') : wpList P ops Q (op :: rest) a w := by
  refine wpList_plain hgd fun _ hK => ?_
  obtain ⟨w', hr, h2, h3⟩ := run_copy_sl (P := P) w dT sT op.type elem i dp sp dLen dCap sLen sCap g o cur t cs hu hi hg hn hpos hfit h1
  unfold Oper.wp execOp
  simp only [ho, resolve, invoke, builtin, Sem.run_bind, Sem.run_pure, Result.andThen_ok, List.map_toArray, List.map_cons, List.map_nil, hd, hs, hr]
  exact hK _ _ (h w' h2 h3)

/-- copy inside one slice, from place j to place k, of m elements: the list behind it. -/
theorem SlF.copied {α : Type} {f : α → List Value} {w w' : World} {e sz g o cap : Nat} {L : List α} (hf : ∀ x, (f x).length = sz) (h : SlF w e sz f (.slice (some ⟨g, o, none⟩) L.length cap) L) (j k m : Nat) (hj : j + m ≤ L.length) (hk : k + m ≤ L.length)
    (cur : Array Value) (hg : w.heap[g]? = some (.cells cur e (0, 0)))
    (hg' : w'.heap[g]? = some (.cells (cur.toList.take (o + k * sz) ++ (((L.drop j).take m).flatMap f) ++ cur.toList.drop (o + k * sz + m * sz)).toArray e (0, 0))) :
    SlF w' e sz f (.slice (some ⟨g, o, none⟩) L.length cap) (L.take k ++ (L.drop j).take m ++ L.drop (k + m)) := by
  have hlen : (L.take k ++ (L.drop j).take m ++ L.drop (k + m)).length = L.length := by simp; omega
  unfold SlF
  rw [hlen]
  refine ⟨by rw [flat_length hf, hlen], ?_⟩
  rcases h.2 with ⟨h0, _⟩ | ⟨g', o', cap', cur', hv, hc, h1, h2, h3, h4⟩
  · cases h0
  · cases hv
    rw [hg] at hc
    cases hc
    have hL : L.length * sz ≤ cap * sz := Nat.mul_le_mul_right _ h1
    have hkm : k * sz + m * sz ≤ L.length * sz := by rw [← Nat.add_mul]; exact Nat.mul_le_mul_right _ hk
    have hml : (((L.drop j).take m).flatMap f).length = m * sz := by rw [flat_length hf]; congr 1; simp; omega
    have hcl : cur.toList.length = cur.size := by simp
    refine .inr ⟨g, o, cap, _, rfl, hg', h1, h2, ?_, ?_⟩
    · simp only [List.size_toArray, List.length_append, List.length_take, List.length_drop, hml, hcl]
      omega
    · have e1 : (cur.toList.take (o + k * sz)).drop o = (L.take k).flatMap f := by
        rw [← flat_take hf, ← h4, List.drop_take, List.take_take]
        congr 1
        omega
      have e2 : (cur.toList.drop (o + k * sz + m * sz)).take (L.length * sz - (k * sz + m * sz)) = (L.drop (k + m)).flatMap f := by
        have : (L.flatMap f).drop ((k + m) * sz) = (L.drop (k + m)).flatMap f := by
          have h5 := congrArg (fun l => List.flatMap f l) (List.take_append_drop (k + m) L)
          simp only [List.flatMap_append] at h5
          rw [← h5, ← flat_take hf, List.drop_append_of_le_length (by rw [List.length_take, flat_length hf, Nat.add_mul]; omega), List.drop_eq_nil_of_le (by rw [List.length_take]; omega), List.nil_append]
        rw [← this, ← h4, List.drop_take, List.drop_drop, Nat.add_mul]
        congr 2
        omega
      show (((cur.toList.take (o + k * sz) ++ (((L.drop j).take m).flatMap f) ++ cur.toList.drop (o + k * sz + m * sz)).drop o).take (L.length * sz)) = _
      rw [List.append_assoc, List.drop_append_of_le_length (by simp; omega), e1]
      rw [List.flatMap_append, List.flatMap_append, List.append_assoc]
      have e3 : ((L.take k).flatMap f).length = k * sz := by rw [flat_length hf]; congr 1; simp; omega
      have e4 : L.length * sz = ((L.take k).flatMap f).length + ((((L.drop j).take m).flatMap f).length + (L.length * sz - (k * sz + m * sz))) := by rw [e3, hml]; omega
      rw [e4, List.take_length_add_append, List.take_length_add_append, e2]
end Go.Proofs.Ytlomeohcgjgpjaa
