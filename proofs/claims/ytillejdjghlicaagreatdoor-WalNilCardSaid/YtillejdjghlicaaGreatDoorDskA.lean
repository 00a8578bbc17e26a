/- A disk in memory: its files in a map, its limit, when it dies; lives, there, Read, act, New. The condition: names are not too long. -/
import Derived.Test.YtillejdjghlicaaGreatDoorMapS
import Derived.Test.YtillejdjghlicaaGreatDoorLibIn
import Derived.Test.YtillejdjghlicaaGreatDoorProg
import Derived.Outline
import Derived.Deep.DeepCutAuto
import Derived.Deep.RegionHeld3
import Derived.Deep.CutBlock
namespace Go.Proofs.YtillejdjghlicaaGreatDoor
open Go Go.Proofs Go.RowKit Go.WideElems Go.ChangeMaps Go.WideMaps
set_option maxRecDepth 100000

section
variable {P : Program} {t k e : TypeId} {w : World} {b : Nat} {f : ByteArray → Option Value}
theorem MapS.look2 (h : MapS w b f) (ht : P.underlying t = some (.map k e)) (hk : P.underlying k = some .string) {n : ByteArray} (hn : n.size ≤ maxLen) {z : Value} (hz : (zeroValue e).run P w = .ok z w) :
    (Instr.lookup t (.map (some b)) (.string n) true).run P w = .ok (.tuple #[(f n).getD z, .bool (f n).isSome]) w := by
  obtain ⟨es, clock, hb, hst, h1, h2⟩ := h
  have K := Maps.string_keyed hk
  have hkey := keyOf_string_mk hk hn
  rcases K.find w hkey es.toList (keysS_of hk h1) with ⟨g1, g2⟩ | ⟨j, e0, g1, g2, g3⟩
  · have : f n = none := by
      cases hf : f n with
      | none => rfl
      | some v =>
        obtain ⟨e1, he1, hek, _⟩ := h2 n v hf
        exact absurd hek (g2 e1 he1)
    simp [Instr.lookup, run_underlying ht, MapKept.run_getObj_map hb, K.check w _ hkey, g1, hz, Result.andThen, this]
  · obtain ⟨m, hm, _, hfm⟩ := h1 e0 (List.mem_of_getElem? g2)
    rw [g3] at hm; cases hm
    simp [Instr.lookup, run_underlying ht, MapKept.run_getObj_map hb, K.check w _ hkey, g1, Result.andThen, hfm, g2]
end
theorem wpList_lookS2 {P : Program} {w : World} {ops : Array Oper} {rest : List Oper} {o : Oper} {a : Act} {Q : Exit → Act → World → Prop} (hg : o.guard = none) (m x : Operand) (t : TypeId) (hop : o.op = Op.lookup t m x true)
    (k e : TypeId) (ht : P.underlying t = some (.map k e)) (hk : P.underlying k = some .string) (b : Nat) (f : ByteArray → Option Value) (hm : a.eval m = .map (some b)) (h : MapS w b f) (n : ByteArray) (hx : a.eval x = .string n)
    (hn : n.size ≤ maxLen) (z : Value) (hz : (zeroValue e).run P w = .ok z w) (v : Value) (i : Bool) (hv : (f n).getD z = v) (hi : (f n).isSome = i) (hK : wpList P ops Q rest (a.put o.dst (.tuple #[v, .bool i])) w) : wpList P ops Q (o :: rest) a w := by
  refine wpList_plain hg fun K' hK' => ?_
  have hrun := h.look2 ht hk hn hz
  rw [hv, hi] at hrun
  unfold Oper.wp
  simp [execOp, hop, hm, hx, hrun, Result.andThen]
  exact hK' _ _ hK
/-- A file: its bytes, how many of them are synced. -/
def fileV (x : ByteArray × Int) : Value := .agg #[.string x.1, .int .i64 x.2]
structure DkAt (w : World) (d m : Nat) (f : ByteArray → Option (ByteArray × Int)) (lim armed : Int) (dead : Bool) : Prop where
  obj : w.heap[d]? = some (.cells #[.map (some m), .int .i64 lim, .int .i64 armed, .bool dead] 47 (0, 0))
  map : MapS w m fun n => (f n).map fileV
  ne : d ≠ m
section
variable {w w' : World} {d m : Nat} {f : ByteArray → Option (ByteArray × Int)} {lim armed : Int} {dead : Bool}
theorem DkAt.fr {X : Nat → Prop} (a : DkAt w d m f lim armed dead) (hf : Fr X w w') (h1 : ¬ X d) (h2 : ¬ X m) : DkAt w' d m f lim armed dead := ⟨hf.heap a.obj h1, a.map.fr hf h2, a.ne⟩
theorem DkAt.fr0 (a : DkAt w d m f lim armed dead) (hf : Fr No w w') : DkAt w' d m f lim armed dead := a.fr hf (fun h => h) fun h => h
end
theorem zero65 (w : World) : (zeroValue 65).run Tryz.prog w = .ok (.agg #[.string ByteArray.empty, .int .i64 0]) w := by
  rw [show (zeroValue 65).run Tryz.prog w = _ from rfl]
  rfl
theorem dlives_calls {w : World} {d m : Nat} {f : ByteArray → Option (ByteArray × Int)} {lim armed : Int} {dead : Bool} (a : DkAt w d m f lim armed dead) :
    Calls Tryz.prog 33 #[.pointer (some ⟨d, 0, none⟩)] w fun e w' => e = .returned (.int .i64 (if dead = true then 20 else 0)) ∧ w = w' := by
  have c3 : w.cell? ⟨d, 3, none⟩ = some (.bool dead) := cellAt a.obj 3 rfl
  have ld := heap_lt a.obj
  clear a
  cases dead with
  | true =>
    go_enter Tryz.func33, Tryz.ntmps33
    go_wp2
    go_ret
    exact ⟨rfl, rfl⟩
  | false =>
    go_enter Tryz.func33, Tryz.ntmps33
    go_wp2
    go_ret
    exact ⟨rfl, rfl⟩
/-- What is wrong with a disk, or that it has no such file. -/
def thereE (f : ByteArray → Option (ByteArray × Int)) (dead : Bool) (n : ByteArray) : Int := if dead = true then 20 else if (f n).isSome = true then 0 else 21
theorem dthere_calls {w : World} {d m : Nat} {f : ByteArray → Option (ByteArray × Int)} {lim armed : Int} {dead : Bool} (a : DkAt w d m f lim armed dead) (n : ByteArray) (hn : n.size ≤ maxLen) :
    Calls Tryz.prog 39 #[.pointer (some ⟨d, 0, none⟩), .string n] w fun e w' => e = .returned (.int .i64 (thereE f dead n)) ∧ Fr No w w' := by
  have hl := dlives_calls a
  have c0 : w.cell? ⟨d, 0, none⟩ = some (.map (some m)) := cellAt a.obj 0 rfl
  have ld := heap_lt a.obj
  have HM := Lib.hid a.map
  have HL := Lib.hid hl
  have HNN := Lib.hid hn
  clear a hl hn
  unfold thereE
  cases dead with
  | true =>
    go_enter Tryz.func39, Tryz.ntmps39
    go_wp2_with (go_at_call 33; (with_reducible refine HL.out.mono ?_); rintro e w1 ⟨rfl, rfl⟩)
    go_ret
    exact ⟨rfl, Fr.refl _ _⟩
  | false =>
    cases hf : f n with
    | none =>
      have HV : Hid (((fun n => (f n).map fileV) n).getD (.agg #[.string ByteArray.empty, .int .i64 0]) = .agg #[.string ByteArray.empty, .int .i64 0] ∧ ((fun n => (f n).map fileV) n).isSome = false) := Lib.hid (by dsimp only; rw [hf]; exact ⟨rfl, rfl⟩)
      clear hf
      go_enter Tryz.func39, Tryz.ntmps39
      go_wp2_with (first
        | (go_at_call 33; (with_reducible refine HL.out.mono ?_); rintro e w1 ⟨rfl, rfl⟩)
        | (refine wpList_lookS2 rfl _ _ 45 rfl 9 65 Tryz.underlying45 Tryz.underlying9 m _ rfl HM.out n rfl HNN.out _ (zero65 _) _ _ HV.out.1 HV.out.2 ?_))
      go_ret
      exact ⟨rfl, (Fr.refl No w).alloc _⟩
    | some x =>
      obtain ⟨x1, x2⟩ := x
      have HV : Hid (((fun n => (f n).map fileV) n).getD (.agg #[.string ByteArray.empty, .int .i64 0]) = .agg #[.string x1, .int .i64 x2] ∧ ((fun n => (f n).map fileV) n).isSome = true) := Lib.hid (by dsimp only; rw [hf]; exact ⟨rfl, rfl⟩)
      clear hf
      go_enter Tryz.func39, Tryz.ntmps39
      go_wp2_with (first
        | (go_at_call 33; (with_reducible refine HL.out.mono ?_); rintro e w1 ⟨rfl, rfl⟩)
        | (refine wpList_lookS2 rfl _ _ 45 rfl 9 65 Tryz.underlying45 Tryz.underlying9 m _ rfl HM.out n rfl HNN.out _ (zero65 _) _ _ HV.out.1 HV.out.2 ?_))
      go_ret
      exact ⟨rfl, (Fr.refl No w).alloc _⟩
end Go.Proofs.YtillejdjghlicaaGreatDoor
