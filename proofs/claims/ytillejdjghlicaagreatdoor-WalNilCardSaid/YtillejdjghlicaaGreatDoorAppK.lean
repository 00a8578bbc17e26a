/- Appends to lists of the call's own, fronts and ends of lists; bytes to a text. No condition. -/
import Derived.Test.YtillejdjghlicaaGreatDoorLib
import Derived.Test.YtillejdjghlicaaGreatDoorProg
import Derived.Test.YtillejdjghlicaaGreatDoorSegL
import Derived.Laws.IdiomStrings
import Derived.KernelRfl
namespace Go.Proofs.YtillejdjghlicaaGreatDoor
open Go Go.Proofs Go.RowKit
set_option maxRecDepth 100000

/-- One append to a list of the call's own: its blocks are b0 or later ones. -/
theorem wpList_app {α : Type} {f : α → List Value} {P : Program} {w : World} {ops : Array Oper} {rest : List Oper} {o : Oper} {a : Act} {Q : Exit → Act → World → Prop} (hgd : o.guard = none) (s x : Operand) (t : TypeId)
    (ho : o.op = .call { callee := .builtin .append, args := #[s, x], argTypes := #[t, t] })
    (e : TypeId) (i : TypeInfo) (z : Value) (sz bytes : Nat) (ht : P.underlying t = some (.slice e)) (hi : P.info? e = some i) (hz : i.zero = some z) (hsize : i.size = sz) (hby : i.bytes = bytes) (hzs : z.cells.size = sz) (hsz : 0 < sz)
    (v : Value) (L : List α) (hs : a.eval s = v) (hown : SlF w e sz f v L) (w0 : World) (X : Nat → Prop) (hnb : ∀ k, v.ownBlock = some k → X k ∨ w0.heap.size ≤ k) (hfr : Fr X w0 w)
    (b c : Nat) (y : α) (hx : a.eval x = .slice (some ⟨b, 0, none⟩) 1 c) (hnews : ∀ j u, (f y)[j]? = some u → w.cell? ((⟨b, 0, none⟩ : Addr).add j) = some u) (hl : (f y).length = sz) (h1 : ∀ u ∈ f y, u.oneCell' = true)
    (h63 : L.length + 1 ≤ maxLen) (hbytes : (L.length + 1) * bytes ≤ 140737488355328)
    (h : ∀ g o' cap w', SlF w' e sz f (.slice (some ⟨g, o', none⟩) (L.length + 1) cap) (L ++ [y]) → (v.ownBlock = some g ∨ w.heap.size ≤ g) → Fr X w0 w' → Fr (fun b => v.ownBlock = some b) w w' → g < w'.heap.size →
      wpList P ops Q rest (a.put o.dst (.slice (some ⟨g, o', none⟩) (L.length + 1) cap)) w') : wpList P ops Q (o :: rest) a w := by
  refine wpList_append_f hgd s x t ho e i z sz bytes ht hi hz hsize hby hzs hsz v L hs hown b c y hx hnews hl h1 h63 hbytes ?_
  intro g o' cap w' h2 h3 h4 h5
  exact h g o' cap w' h2 (h4.imp id fun e => by omega) (hfr.grown h3 fun k hk => hnb k hk) ((Fr.refl _ w).grown h3 fun k hk => .inl hk) h5
theorem info_parts {P : Program} {t : TypeId} {z : Value} {n b : Nat} (h : (P.info? t).map (fun i => (i.zero, i.size, i.bytes)) = some (some z, n, b)) : ∃ i, P.info? t = some i ∧ i.zero = some z ∧ i.size = n ∧ i.bytes = b := by
  obtain ⟨i, hi, h2⟩ := Option.map_eq_some_iff.1 h
  simp only [Prod.mk.injEq] at h2
  exact ⟨i, hi, h2.1, h2.2.1, h2.2.2⟩
theorem infoU8 : (Tryz.prog.info? 5).map (fun i => (i.zero, i.size, i.bytes)) = some (some (.int .u8 0), 1, 1) := by kernel_rfl
theorem infoStr : (Tryz.prog.info? 9).map (fun i => (i.zero, i.size, i.bytes)) = some (some (.string ByteArray.empty), 1, 16) := by kernel_rfl
theorem infoSeg : (Tryz.prog.info? 54).map (fun i => (i.zero, i.size, i.bytes)) = some (some (.agg #[.int .i64 0, .int .i64 0]), 2, 16) := by kernel_rfl
/-- The end of a list. -/
theorem SlF.drop {α : Type} {f : α → List Value} {w : World} {e sz g o cap : Nat} {L : List α} (hf : ∀ x, (f x).length = sz) (h : SlF w e sz f (.slice (some ⟨g, o, none⟩) L.length cap) L) (k : Nat) (hk : k ≤ L.length) :
    SlF w e sz f (.slice (some ⟨g, o + k * sz, none⟩) (L.length - k) (cap - k)) (L.drop k) := by
  obtain ⟨h0, h2⟩ := h
  rcases h2 with ⟨h3, _⟩ | ⟨g', o', cap', cur, hv, hg, h4, h5, h6, h7⟩
  · cases h3
  · simp only [Value.slice.injEq, Option.some.injEq, Addr.mk.injEq, and_true, true_and] at hv
    obtain ⟨⟨rfl, rfl⟩, rfl⟩ := hv
    have hd : (L.flatMap f).drop (k * sz) = (L.drop k).flatMap f := by
      have h5 := congrArg (fun l => List.flatMap f l) (List.take_append_drop k L)
      rw [List.flatMap_append] at h5
      rw [← h5, ← flat_take hf, List.drop_append_of_le_length (by rw [List.length_take, flat_length hf]; have := Nat.mul_le_mul_right sz hk; omega), List.drop_eq_nil_of_le (by rw [List.length_take]; omega), List.nil_append]
    unfold SlF
    rw [List.length_drop]
    refine ⟨by rw [flat_length hf, List.length_drop], .inr ⟨g, o + k * sz, cap - k, cur, rfl, hg, by omega, by omega, ?_, ?_⟩⟩
    · have := Nat.mul_le_mul_right sz (show k ≤ cap by omega)
      rw [Nat.sub_mul]
      omega
    · rw [← hd, ← h7, List.drop_take, List.drop_drop, Nat.sub_mul]
/-- The end of a list, as Go cuts it. -/
theorem SlF.dropI {α : Type} {f : α → List Value} {w : World} {e sz g o cap : Nat} {L : List α} (hf : ∀ x, (f x).length = sz) (h : SlF w e sz f (.slice (some ⟨g, o, none⟩) L.length cap) L) (k : Nat) (hk : k ≤ L.length) :
    SlF w e sz f (.slice (if cap = k then some ⟨g, o, none⟩ else some ⟨g, o + k * sz, none⟩) (L.length - k) (cap - k)) (L.drop k) := by
  by_cases hc : cap = k
  · rw [if_pos hc]
    obtain ⟨h0, h2⟩ := h
    rcases h2 with ⟨h3, _⟩ | ⟨g', o', cap', cur, hv, hg, h4, h5, h6, h7⟩
    · cases h3
    · simp only [Value.slice.injEq, Option.some.injEq, Addr.mk.injEq, and_true, true_and] at hv
      obtain ⟨⟨rfl, rfl⟩, rfl⟩ := hv
      have hl : L.drop k = [] := List.drop_eq_nil_of_le (by omega)
      rw [hl]
      unfold SlF
      refine ⟨by simp, .inr ⟨g, o, cap - k, cur, by rw [show L.length - k = 0 by omega]; rfl, hg, by simp, by omega, ?_, by simp⟩⟩
      rw [show cap - k = 0 by omega, Nat.zero_mul]
      omega
  · rw [if_neg hc]
    exact h.drop hf k hk
def u8C (c : UInt8) : List Value := [.int .u8 c.toNat]
theorem u8C_length (c : UInt8) : (u8C c).length = 1 := rfl
theorem slF_string {w : World} {v : Value} {l : List UInt8} (h : SlF w 5 1 u8C v l) (h0 : 0 < l.length) : (convert 98 9 v).run Tryz.prog w = .ok (.string (toB l)) w := by
  obtain ⟨a, cap, rfl, _, _, h3⟩ := h.shape
  obtain ⟨g, o, rfl⟩ := h3 h0
  refine run_convert_bytes_back (P := Tryz.prog) _ 98 9 5 ⟨g, o, none⟩ cap l Tryz.underlying98 Tryz.underlying5 Tryz.underlying9 fun j hj => ?_
  have h1 : w.cell? ⟨g, o + j * 1, none⟩ = some (.int .u8 l[j].toNat) := SlF.cell0 (f := u8C) (fun _ => rfl) h j (List.getElem?_eq_getElem hj) rfl
  have e : (⟨g, o, none⟩ : Addr).add j = ⟨g, o + j * 1, none⟩ := by
    unfold Addr.add
    by_cases h : j = 0
    · simp [h]
    · simp [h]
  rw [e, h1]
end Go.Proofs.YtillejdjghlicaaGreatDoor
