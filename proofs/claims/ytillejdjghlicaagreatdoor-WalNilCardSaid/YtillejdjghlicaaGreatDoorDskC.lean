/- A disk in memory: Remove. The condition: names are not too long. -/
import Derived.Test.YtillejdjghlicaaGreatDoorDskB
namespace Go.Proofs.YtillejdjghlicaaGreatDoor
open Go Go.Proofs Go.RowKit Go.WideElems Go.ChangeMaps Go.WideMaps
set_option maxRecDepth 100000

/-- A file laid, a file taken away. -/
def setD (f : ByteArray → Option (ByteArray × Int)) (n : ByteArray) (x : ByteArray × Int) : ByteArray → Option (ByteArray × Int) := fun k => if k = n then some x else f k
def delD (f : ByteArray → Option (ByteArray × Int)) (n : ByteArray) : ByteArray → Option (ByteArray × Int) := fun k => if k = n then none else f k
theorem map_delD (f : ByteArray → Option (ByteArray × Int)) (n : ByteArray) : (fun k => if k = n then none else (f k).map fileV) = fun k => (delD f n k).map fileV := by
  funext k
  unfold delD
  split <;> rfl
theorem map_setD (f : ByteArray → Option (ByteArray × Int)) (n : ByteArray) (x : ByteArray × Int) : (fun k => if k = n then some (fileV x) else (f k).map fileV) = fun k => (setD f n x k).map fileV := by
  funext k
  unfold setD
  split <;> rfl
/-- What an act on a file that is there answers. -/
def actE (armed : Int) (dead : Bool) : Int := if actD armed dead = true then 20 else 0
/-- Behind a change of a file: what it answers, the disk. -/
def ChgTo (w w' : World) (d m : Nat) (f f' : ByteArray → Option (ByteArray × Int)) (lim armed : Int) (dead : Bool) (n : ByteArray) (e : Ending) : Prop :=
  e = .returned (.int .i64 (if thereE f dead n ≠ 0 then thereE f dead n else actE armed dead)) ∧
    DkAt w' d m (if thereE f dead n = 0 ∧ actE armed dead = 0 then f' else f) lim (if thereE f dead n = 0 then actA armed else armed) (if thereE f dead n = 0 then actD armed dead else dead) ∧ Fr (fun b => b = d ∨ b = m) w w'
set_option maxHeartbeats 4000000 in
theorem dremove_calls {w : World} {d m : Nat} {f : ByteArray → Option (ByteArray × Int)} {lim armed : Int} {dead : Bool} (a : DkAt w d m f lim armed dead) (ha : armed ≤ 9223372036854775807) (n : ByteArray) (hn : n.size ≤ maxLen) :
    Calls Tryz.prog 38 #[.pointer (some ⟨d, 0, none⟩), .string n] w fun e w' => ChgTo w w' d m f (delD f n) lim armed dead n e := by
  have hl := dthere_calls a n hn
  have A := Lib.hid a
  have HL := Lib.hid hl
  have HNN := Lib.hid hn
  have AC := Lib.hid fun W (hW : DkAt W d m f lim armed dead) => dact_calls hW ha
  unfold ChgTo
  by_cases h0 : thereE f dead n = 0
  · rw [h0] at HL
    rw [h0]
    simp only [ne_eq, not_true_eq_false, if_false, if_true, true_and]
    clear hl hn a h0
    have hae : actE armed dead = if actD armed dead = true then 20 else 0 := rfl
    rw [hae]
    generalize actD armed dead = ad at *
    generalize actA armed = aa at *
    clear hae
    cases ad with
    | true =>
      go_enter Tryz.func38, Tryz.ntmps38
      go_wp2_with (first
        | (go_at_call 39; (with_reducible refine HL.out.mono ?_); rintro e w1 ⟨rfl, hf1⟩; have A1 := Lib.hid (A.out.fr0 hf1))
        | (go_at_call 46; (with_reducible refine (AC.out _ A1.out).mono ?_); rintro e w2 ⟨rfl, a2, hf2⟩))
      go_ret
      exact ⟨rfl, by simpa using a2, (hf1.mono fun _ _ h => h.elim).trans (hf2.mono fun _ _ h => .inl h) fun _ _ h => h⟩
    | false =>
      go_enter Tryz.func38, Tryz.ntmps38
      go_upto_region 6 with (first
        | (go_at_call 39; (with_reducible refine HL.out.mono ?_); rintro e w1 ⟨rfl, hf1⟩; have A1 := Lib.hid (A.out.fr0 hf1))
        | (go_at_call 46; (with_reducible refine (AC.out _ A1.out).mono ?_); rintro e w2 ⟨rfl, a2, hf2⟩))
      have c0 : w2.cell? ⟨d, 0, none⟩ = some (.map (some m)) := cellAt a2.obj 0 rfl
      have ld := heap_lt a2.obj
      have HM := Lib.hid a2.map
      have A2 := Lib.hid a2
      clear a2
      go_wp2_with (refine wpList_dropS rfl _ _ 45 9 rfl 65 Tryz.underlying45 Tryz.underlying9 m _ rfl HM.out n rfl HNN.out ?_; rintro w3 hm3 hf3 hz3)
      go_ret
      rw [map_delD] at hm3
      exact ⟨rfl, ⟨hf3.heap A2.out.obj A2.out.ne, by simpa using hm3, A2.out.ne⟩, ((hf1.mono fun _ _ h => h.elim).trans (hf2.mono fun _ _ h => .inl h) fun _ _ h => h).trans (hf3.mono fun _ _ h => .inr h) fun _ _ h => h⟩
  · have h0' : (thereE f dead n == 0) = false := by simpa using h0
    rw [if_pos h0, if_neg (fun h => h0 h.1), if_neg h0, if_neg h0]
    generalize thereE f dead n = te at *
    clear hl hn a
    go_enter Tryz.func38, Tryz.ntmps38
    go_wp2_with (go_at_call 39; (with_reducible refine HL.out.mono ?_); rintro e w1 ⟨rfl, hf1⟩)
    go_ret
    exact ⟨rfl, A.out.fr0 hf1, hf1.mono fun _ _ h => h.elim⟩
end Go.Proofs.YtillejdjghlicaaGreatDoor
