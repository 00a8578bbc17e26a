/- The package gens: what a key shows at a revision (upTo, At). No condition but that lists stay short. -/
import Derived.Test.YthljnnjpmdgkoaaGens2
namespace Go.Proofs.Ythljnnjpmdgkoaa
open Go Go.Proofs Go.RowKit
set_option maxRecDepth 100000

def upTo (l : List Int) (rev : Int) : Nat := l.findIdx fun p => decide (rev < p)

def idxInt (l : List Int) (rev : Int) : Int := if upTo l rev = l.length then -1 else (upTo l rev : Int)

/-- 'slices.IndexFunc(puts, func(p int) bool { return p > rev })'. -/
theorem indexInt_calls (w : World) (v : Value) (l : List Int) (rev : Int) (tb : Nat) (hv : SlF w 3 1 int1 v l) (hl : l.length ≤ 1099511627776) (ht : w.cell? ⟨tb, 0, none⟩ = some (.int .i64 rev)) :
    Calls Try.prog 134 #[v, .func (.func 135) #[] #[.pointer (some ⟨tb, 0, none⟩)]] w fun e w' => e = .returned (.int .i64 (idxInt l rev)) ∧ w = w' := by
  obtain ⟨a, cap, rfl, hc1, hc2, ha⟩ := hv.shape
  have HV := Lib.hid hv; clear hv
  have HA := Lib.hid ha; clear ha
  go_enter Try.func134, Try.ntmps134
  go_wp2
  go_loopg [8] l.length (fun g s8 wr => ∃ i : Nat, s8 = .int .i64 i ∧ i + g = l.length ∧ Hid (∀ j, j < i → ¬ rev < l[j]?.getD 0) ∧ w = wr)
  case atStart => exact ⟨0, rfl, by simp, Lib.hid (by simp), rfl⟩
  case round =>
    obtain ⟨i, rfl, hi, HJ, rfl⟩ := hrel
    cases gk with
    | zero =>
      have hil : ¬ (i : Int) < (l.length : Int) := by omega
      go_wp2
      go_ret
      refine ⟨?_, rfl⟩
      have hu : upTo l rev = l.length := by
        unfold upTo
        rw [List.findIdx_eq_length]
        intro x hx
        obtain ⟨j, hj, rfl⟩ := List.getElem_of_mem hx
        have := HJ.out j (by omega)
        simpa [hj] using this
      unfold idxInt
      rw [if_pos hu]
      rfl
    | succ g =>
      obtain ⟨gb, go, rfl⟩ := HA.out (by omega)
      have hx : l[i]? = some (l[i]'(by omega)) := List.getElem?_eq_getElem (by omega)
      have hcx := HV.out.cell1 int1_length i hx rfl
      have hil : (i : Int) < (l.length : Int) := by omega
      by_cases hp : rev < l[i]'(by omega)
      · have hpd : decide (rev < l[i]'(by omega)) = true := by simpa using hp
        have Hx := Lib.hid hx
        have Hp := Lib.hid hp
        clear hx hp
        go_wp2
        go_ret
        refine ⟨?_, rfl⟩
        have hu : upTo l rev = i := by
          unfold upTo
          rw [List.findIdx_eq (by omega)]
          refine ⟨by simpa using Hp.out, fun j hj => ?_⟩
          have := HJ.out j hj
          have hjl : j < l.length := by omega
          simpa [hjl] using this
        unfold idxInt
        rw [if_neg (by omega), hu]
        rfl
      · have hpd : decide (rev < l[i]'(by omega)) = false := by simpa using hp
        have Hx := Lib.hid hx
        have Hp := Lib.hid hp
        clear hx hp
        go_wp2
        go_roundg g
        case rel =>
          refine ⟨i + 1, by go_num, by omega, Lib.hid fun j hj => ?_, rfl⟩
          by_cases hji : j = i
          · subst hji
            rw [Hx.out]
            exact Hp.out
          · exact HJ.out j (by omega)
        case measure => omega

theorem upTo_le (l : List Int) (rev : Int) : upTo l rev ≤ l.length := List.findIdx_le_length

/-- 'g.upTo(rev)'. -/
theorem upTo_calls (w : World) (x : Gen) (pv : Value) (rev : Int) (hv : SlF w 3 1 int1 pv x.puts) (hl : x.puts.length ≤ 1099511627776) :
    Calls Try.prog 118 #[.agg #[.int .i64 x.create, .int .i64 x.cut, pv, .int .i64 x.end_], .int .i64 rev] w fun e w' => e = .returned (.int .i64 (upTo x.puts rev)) ∧ Fr No w w' := by
  have hmf : ∀ (fn : Fn) (first cap : Array Value) (w : World), (Instr.makeFunc fn first cap).run Try.prog w = .ok (.func fn first cap) w := fun _ _ _ _ => rfl
  obtain ⟨a, cap, rfl, hc1, hc2, ha⟩ := hv.shape
  have hidx := fun W hw ht => indexInt_calls W (.slice a x.puts.length cap) x.puts rev (w.heap.size + 1) hw hl ht
  have hle := upTo_le x.puts rev
  have HV := Lib.hid hv; clear hv ha
  by_cases hu : upTo x.puts rev = x.puts.length
  · have hi : idxInt x.puts rev = -1 := by unfold idxInt; rw [if_pos hu]
    rw [hi] at hidx
    have HU := Lib.hid hu; clear hu hi
    go_enter Try.func118, Try.ntmps118
    go_wp2_with (go_at_call 134; refine (hidx _ (by exact (HV.out.alloc _).alloc _) (by simp [go_sem])).mono ?_; rintro e w2 ⟨rfl, rfl⟩)
    go_ret
    exact ⟨by rw [HU.out]; rfl, ((Fr.refl _ w).alloc _).alloc _⟩
  · have hi : idxInt x.puts rev = (upTo x.puts rev : Int) := by unfold idxInt; rw [if_neg hu]
    rw [hi] at hidx
    generalize upTo x.puts rev = n at *
    clear hi hu
    go_enter Try.func118, Try.ntmps118
    go_wp2_with (go_at_call 134; refine (hidx _ (by exact (HV.out.alloc _).alloc _) (by simp [go_sem])).mono ?_; rintro e w2 ⟨rfl, rfl⟩)
    go_ret
    exact ⟨rfl, ((Fr.refl _ w).alloc _).alloc _⟩
end Go.Proofs.Ythljnnjpmdgkoaa
