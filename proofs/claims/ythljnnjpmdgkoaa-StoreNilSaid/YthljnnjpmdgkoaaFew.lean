/- Whether an input is not too much: the statements' own Few. Slices are read alone. -/
import Derived.Test.YthljnnjpmdgkoaaTxn
namespace Go.Proofs.Ythljnnjpmdgkoaa
open Go Go.Proofs Go.RowKit
set_option maxRecDepth 100000

def fewOp (o : Opr) : Bool := decide (o.rg.key.size ≤ 3000) && decide (o.rg.end_.size ≤ 3000) && decide (o.value.size ≤ 3000)
def fewOps (l : List Opr) : Bool := decide (l.length ≤ 30) && l.all fewOp

theorem take_all_next {α : Type} {l : List α} {p : α → Bool} {i : Nat} {x : α} (hx : l[i]? = some x) : (l.take (i + 1)).all p = ((l.take i).all p && p x) := by
  rw [List.take_add_one, hx, List.all_append]; simp
theorem all_false_of {α : Type} {l : List α} {p : α → Bool} {i : Nat} {x : α} (hx : l[i]? = some x) (hp : p x = false) : l.all p = false := by
  rw [List.all_eq_false]
  exact ⟨x, List.mem_of_getElem? hx, by simp [hp]⟩

set_option maxHeartbeats 2000000 in
theorem fewOps_calls (w : World) (v : Value) (l : List Opr) (hv : SlR w 10 opC v l) : Calls Try.prog 18 #[v] w fun e w' => e = .returned (.bool (fewOps l)) ∧ w = w' := by
  obtain ⟨a, cap, rfl, hc1, hc2, ha⟩ := hv.shape
  have HV := Lib.hid hv; clear hv
  have HA := Lib.hid ha; clear ha
  by_cases h30 : 30 < l.length
  · have h30' : (30 : Int) < (l.length : Int) := by omega
    have : fewOps l = false := by unfold fewOps; simp; omega
    rw [this]
    go_enter Try.func18, Try.ntmps18
    go_wp2
    go_ret
    exact ⟨rfl, rfl⟩
  · have h30' : ¬ (30 : Int) < (l.length : Int) := by omega
    have hE : fewOps l = l.all fewOp := by unfold fewOps; simp; omega
    have HE := Lib.hid hE; clear hE
    go_enter Try.func18, Try.ntmps18
    go_wp2
    go_loopg [3] l.length (fun g s3 wr => ∃ i : Nat, s3 = .int .i64 i ∧ i + g = l.length ∧ Hid ((l.take i).all fewOp = true) ∧ w = wr)
    case atStart => exact ⟨0, rfl, by simp, Lib.hid (by simp), rfl⟩
    case round =>
      obtain ⟨i, rfl, hi, HJ, rfl⟩ := hrel
      cases gk with
      | zero =>
        have hil : ¬ (i : Int) < (l.length : Int) := by omega
        have hti : l.take i = l := List.take_of_length_le (by omega)
        rw [hti] at HJ
        go_wp2
        go_ret
        exact ⟨by rw [HE.out, HJ.out]; rfl, rfl⟩
      | succ g =>
        obtain ⟨gb, go, rfl⟩ := HA.out (by omega)
        obtain ⟨p, hx⟩ : ∃ p, l[i]? = some p := ⟨_, List.getElem?_eq_getElem (by omega)⟩
        have hvr := HV.out
        have x1 := hvr.cell opC_length i 1 hx rfl
        have x2 := hvr.cell opC_length i 2 hx rfl
        have x8 := hvr.cell opC_length i 8 hx rfl
        have hil : (i : Int) < (l.length : Int) := by omega
        have hnx := take_all_next (p := fewOp) hx
        have hfa := all_false_of (p := fewOp) hx
        have HNX := Lib.hid hnx
        have HFA := Lib.hid hfa
        clear hx hvr hnx hfa
        by_cases h1 : 3000 < p.rg.key.size
        · have h1' : (3000 : Int) < (p.rg.key.size : Int) := by omega
          have hf : fewOp p = false := by unfold fewOp; simp; omega
          have HF := Lib.hid hf; clear hf
          go_wp2
          go_ret
          exact ⟨by rw [HE.out, HFA.out HF.out]; rfl, rfl⟩
        · have h1' : ¬ (3000 : Int) < (p.rg.key.size : Int) := by omega
          by_cases h2 : 3000 < p.rg.end_.size
          · have h2' : (3000 : Int) < (p.rg.end_.size : Int) := by omega
            have hf : fewOp p = false := by unfold fewOp; simp; omega
            have HF := Lib.hid hf; clear hf
            go_wp2
            go_ret
            exact ⟨by rw [HE.out, HFA.out HF.out]; rfl, rfl⟩
          · have h2' : ¬ (3000 : Int) < (p.rg.end_.size : Int) := by omega
            by_cases h3 : 3000 < p.value.size
            · have h3' : (3000 : Int) < (p.value.size : Int) := by omega
              have hf : fewOp p = false := by unfold fewOp; simp; omega
              have HF := Lib.hid hf; clear hf
              go_wp2
              go_ret
              exact ⟨by rw [HE.out, HFA.out HF.out]; rfl, rfl⟩
            · have h3' : ¬ (3000 : Int) < (p.value.size : Int) := by omega
              have hf : fewOp p = true := by unfold fewOp; simp; omega
              have HF := Lib.hid hf; clear hf
              go_wp2
              go_roundg g
              case rel => exact ⟨i + 1, by go_num, by omega, Lib.hid (by rw [HNX.out, HJ.out, HF.out]; rfl), rfl⟩
              case measure => omega

/-- A call of a store: its cells. -/
structure Cal where
  kind : Int
  ops : Value
  rg : Rg
  rev : Int
  upto : Int
  keys : Value
def calC (q : Cal × List Opr × List ByteArray) : List Value := .int .i64 q.1.kind :: q.1.ops :: (rgC q.1.rg ++ [.int .i64 q.1.rev, .int .i64 q.1.upto, q.1.keys])
theorem calC_length (q : Cal × List Opr × List ByteArray) : (calC q).length = 12 := rfl
def strC (s : ByteArray) : List Value := [.string s]
theorem strC_length (s : ByteArray) : (strC s).length = 1 := rfl
structure CalR (w : World) (v : Value) (Z : List (Cal × List Opr × List ByteArray)) : Prop where
  sl : SlR w 12 calC v Z
  ops : ∀ (i : Nat) q, Z[i]? = some q → SlR w 10 opC q.1.ops q.2.1
  keys : ∀ (i : Nat) q, Z[i]? = some q → SlR w 1 strC q.1.keys q.2.2
def fewKey (s : ByteArray) : Bool := decide (s.size ≤ 3000)
def fewCal (q : Cal × List Opr × List ByteArray) : Bool := fewOps q.2.1 && decide (q.2.2.length ≤ 30) && fewKey q.1.rg.key && fewKey q.1.rg.end_ && q.2.2.all fewKey
def fewCals (Z : List (Cal × List Opr × List ByteArray)) : Bool := decide (Z.length ≤ 30) && Z.all fewCal

set_option maxHeartbeats 4000000 in
theorem fewCals_calls (w : World) (v : Value) (l : List (Cal × List Opr × List ByteArray)) (hv : CalR w v l) : Calls Try.prog 28 #[v] w fun e w' => e = .returned (.bool (fewCals l)) ∧ w = w' := by
  obtain ⟨hv, hops, hkeys⟩ := hv
  obtain ⟨a, cap, rfl, hc1, hc2, ha⟩ := hv.shape
  have HV := Lib.hid hv; clear hv
  have HA := Lib.hid ha; clear ha
  have HO := Lib.hid hops; clear hops
  have HK := Lib.hid hkeys; clear hkeys
  by_cases h30 : 30 < l.length
  · have h30' : (30 : Int) < (l.length : Int) := by omega
    have : fewCals l = false := by unfold fewCals; simp; omega
    rw [this]
    go_enter Try.func28, Try.ntmps28
    go_wp2
    go_ret
    exact ⟨rfl, rfl⟩
  · have h30' : ¬ (30 : Int) < (l.length : Int) := by omega
    have hE : fewCals l = l.all fewCal := by unfold fewCals; simp; omega
    have HE := Lib.hid hE; clear hE
    go_enter Try.func28, Try.ntmps28
    go_wp2
    go_loopg [3] l.length (fun g s3 wr => ∃ i : Nat, s3 = .int .i64 i ∧ i + g = l.length ∧ Hid ((l.take i).all fewCal = true) ∧ w = wr)
    case atStart => exact ⟨0, rfl, by simp, Lib.hid (by simp), rfl⟩
    case round =>
      obtain ⟨i, rfl, hi, HJ, rfl⟩ := hrel
      cases gk with
      | zero =>
        have hil : ¬ (i : Int) < (l.length : Int) := by omega
        have hti : l.take i = l := List.take_of_length_le (by omega)
        rw [hti] at HJ
        go_wp2
        go_ret
        exact ⟨by rw [HE.out, HJ.out]; rfl, rfl⟩
      | succ g =>
        obtain ⟨gb, go, rfl⟩ := HA.out (by omega)
        obtain ⟨p, hx⟩ : ∃ p, l[i]? = some p := ⟨_, List.getElem?_eq_getElem (by omega)⟩
        have hvr := HV.out
        have x1 := hvr.cell calC_length i 1 hx rfl
        have x2 := hvr.cell calC_length i 2 hx rfl
        have x3 := hvr.cell calC_length i 3 hx rfl
        have x11 := hvr.cell calC_length i 11 hx rfl
        have hil : (i : Int) < (l.length : Int) := by omega
        have hnx := take_all_next (p := fewCal) hx
        have hfa := all_false_of (p := fewCal) hx
        have HNX := Lib.hid hnx
        have HFA := Lib.hid hfa
        have hops := HO.out i p hx
        have hkeys := HK.out i p hx
        have hfo := fewOps_calls w p.1.ops p.2.1 hops
        have hfc : fewCal p = (fewOps p.2.1 && decide (p.2.2.length ≤ 30) && fewKey p.1.rg.key && fewKey p.1.rg.end_ && p.2.2.all fewKey) := rfl
        clear hx hvr hnx hfa hops
        obtain ⟨⟨p1, p2, ⟨g1, g2, g3, g4, g5, g6, g7⟩, p3, p4, p5⟩, ops, keys⟩ := p
        dsimp only at x1 x2 x3 x11 hfo hkeys hfc
        obtain ⟨ka, kcap, rfl, hkc1, hkc2, hka⟩ := hkeys.shape
        generalize fewCal _ = fc at *
        generalize fewOps ops = fo at *
        have HKS := Lib.hid hkeys; clear hkeys
        have HKA := Lib.hid hka; clear hka
        have HFO := Lib.hid hfo; clear hfo
        have HFC := Lib.hid hfc; clear hfc
        cases fo
        · have hf : fc = false := by rw [HFC.out]; rfl
          have HF := Lib.hid hf; clear hf
          go_wp2_with (go_at_call 18; refine HFO.out.mono ?_; rintro e w' ⟨rfl, rfl⟩)
          go_ret
          exact ⟨by rw [HE.out, HFA.out HF.out]; rfl, rfl⟩
        · by_cases h1 : 30 < keys.length
          · have h1' : (30 : Int) < (keys.length : Int) := by omega
            have hf : fc = false := by rw [HFC.out]; simp; omega
            have HF := Lib.hid hf; clear hf
            go_wp2_with (go_at_call 18; refine HFO.out.mono ?_; rintro e w' ⟨rfl, rfl⟩)
            go_ret
            exact ⟨by rw [HE.out, HFA.out HF.out]; rfl, rfl⟩
          · have h1' : ¬ (30 : Int) < (keys.length : Int) := by omega
            by_cases h2 : 3000 < g1.size
            · have h2' : (3000 : Int) < (g1.size : Int) := by omega
              have hf : fc = false := by rw [HFC.out]; simp [fewKey]; omega
              have HF := Lib.hid hf; clear hf
              go_wp2_with (go_at_call 18; refine HFO.out.mono ?_; rintro e w' ⟨rfl, rfl⟩)
              go_ret
              exact ⟨by rw [HE.out, HFA.out HF.out]; rfl, rfl⟩
            · have h2' : ¬ (3000 : Int) < (g1.size : Int) := by omega
              by_cases h3 : 3000 < g2.size
              · have h3' : (3000 : Int) < (g2.size : Int) := by omega
                have hf : fc = false := by rw [HFC.out]; simp [fewKey]; omega
                have HF := Lib.hid hf; clear hf
                go_wp2_with (go_at_call 18; refine HFO.out.mono ?_; rintro e w' ⟨rfl, rfl⟩)
                go_ret
                exact ⟨by rw [HE.out, HFA.out HF.out]; rfl, rfl⟩
              · have h3' : ¬ (3000 : Int) < (g2.size : Int) := by omega
                have hf : fc = keys.all fewKey := by
                  rw [HFC.out]
                  have a1 : decide (keys.length ≤ 30) = true := by simp; omega
                  have a2 : fewKey g1 = true := by unfold fewKey; simp; omega
                  have a3 : fewKey g2 = true := by unfold fewKey; simp; omega
                  rw [a1, a2, a3]; rfl
                have HF := Lib.hid hf; clear hf
                go_wp2_with (go_at_call 18; refine HFO.out.mono ?_; rintro e w' ⟨rfl, rfl⟩)
                go_loopg [4] keys.length (fun g' s4 wr => ∃ k : Nat, s4 = .int .i64 k ∧ k + g' = keys.length ∧ Hid ((keys.take k).all fewKey = true) ∧ w = wr)
                case atStart => exact ⟨0, rfl, by simp, Lib.hid (by simp), rfl⟩
                case round =>
                  obtain ⟨k, rfl, hk, HJ2, rfl⟩ := hrel
                  cases gk with
                  | zero =>
                    have hkl : ¬ (k : Int) < (keys.length : Int) := by omega
                    have hti : keys.take k = keys := List.take_of_length_le (by omega)
                    rw [hti] at HJ2
                    go_wp2
                    go_roundg g
                    case rel => exact ⟨i + 1, by go_num, by omega, Lib.hid (by rw [HNX.out, HJ.out, HF.out, HJ2.out]; rfl), rfl⟩
                    case measure => omega
                  | succ g' =>
                    obtain ⟨kb, ko, rfl⟩ := HKA.out (by omega)
                    obtain ⟨q, hx⟩ : ∃ q, keys[k]? = some q := ⟨_, List.getElem?_eq_getElem (by omega)⟩
                    have z0 := HKS.out.cell0 strC_length k hx rfl
                    have z0' : w.cell? ⟨kb, ko + k, none⟩ = some (.string q) := by simpa using z0
                    have hkl : (k : Int) < (keys.length : Int) := by omega
                    have hnx := take_all_next (p := fewKey) hx
                    have hfa := all_false_of (p := fewKey) hx
                    have HNX2 := Lib.hid hnx
                    have HFA2 := Lib.hid hfa
                    clear hx hnx hfa z0
                    by_cases h4 : 3000 < q.size
                    · have h4' : (3000 : Int) < (q.size : Int) := by omega
                      go_wp2
                      go_ret
                      exact ⟨by rw [HE.out, HFA.out (by rw [HF.out, HFA2.out (by unfold fewKey; simp; omega)])]; rfl, rfl⟩
                    · have h4' : ¬ (3000 : Int) < (q.size : Int) := by omega
                      go_wp2
                      go_roundg g'
                      case rel => exact ⟨k + 1, by go_num, by omega, Lib.hid (by rw [HNX2.out, HJ2.out]; unfold fewKey; simp; omega), rfl⟩
                      case measure => omega
end Go.Proofs.Ythljnnjpmdgkoaa
