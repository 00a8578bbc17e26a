/- A log in memory: First, Next, last, lives. The conditions: what LgM and LgOk say (numbers of at most ten digits). -/
import Derived.Test.YtillejdjghlicaaGreatDoorDkC
import Derived.Test.YtillejdjghlicaaGreatDoorLogP
import Derived.Test.YtillejdjghlicaaGreatDoorLib4
namespace Go.Proofs.YtillejdjghlicaaGreatDoor
open Go Go.Proofs Go.RowKit Go.WideElems Go.ChangeMaps Go.WideMaps
set_option maxRecDepth 100000

/-- A segment's two cells. -/
def segC (s : Nat × Nat) : List Value := [.int .i64 s.1, .int .i64 s.2]
theorem segC_length (s : Nat × Nat) : (segC s).length = 2 := rfl
/-- A log in memory over the disk d (its map m); its own blocks are b0 or later ones. -/
structure LgM (w : World) (b0 p d m : Nat) (L : Lg) (vs vl : Value) : Prop where
  obj : w.heap[p]? = some (.cells #[.pointer (some ⟨d, 0, none⟩), .int .i64 L.size, vs, .int .i64 L.first, vl] 51 (0, 0))
  segs : SlF w 54 2 segC vs L.segs
  recs : SlF w 9 1 strB vl (L.l.map toB)
  lo : b0 ≤ p ∧ (∀ k, vs.ownBlock = some k → b0 ≤ k) ∧ (∀ k, vl.ownBlock = some k → b0 ≤ k)
  ne : p ≠ d ∧ p ≠ m
  nes : ∀ k, vs.ownBlock = some k → k ≠ d ∧ k ≠ m ∧ k ≠ p
  nel : ∀ k, vl.ownBlock = some k → k ≠ d ∧ k ≠ m ∧ k ≠ p
  nsl : ∀ k, vs.ownBlock = some k → vl.ownBlock ≠ some k
/-- Numbers of at most ten digits. -/
structure LgOk (L : Lg) : Prop where
  segs : ∀ s ∈ L.segs, 1 ≤ s.1 ∧ s.1 < 10000000000 ∧ s.2 ≤ 1099511627776
  len : L.segs.length ≤ 1000000
  top : L.first + L.l.length ≤ 1000000
  size : L.size ≤ 1048576
section
variable {w w' : World} {b0 p d m : Nat} {L : Lg} {vs vl : Value}
theorem LgM.fr {X : Nat → Prop} (h : LgM w b0 p d m L vs vl) (hf : Fr X w w') (hp : ¬ X p) (hs : ∀ k, vs.ownBlock = some k → ¬ X k) (hl : ∀ k, vl.ownBlock = some k → ¬ X k) : LgM w' b0 p d m L vs vl :=
  ⟨hf.heap h.obj hp, h.segs.fr hf hs, h.recs.fr hf hl, h.lo, h.ne, h.nes, h.nel, h.nsl⟩
theorem LgM.fr0 (h : LgM w b0 p d m L vs vl) (hf : Fr No w w') : LgM w' b0 p d m L vs vl := h.fr hf (fun h => h) (fun _ _ h => h) fun _ _ h => h
theorem LgM.frD (h : LgM w b0 p d m L vs vl) (hf : Fr (DM d m) w w') : LgM w' b0 p d m L vs vl :=
  h.fr hf (fun e => e.elim h.ne.1 h.ne.2) (fun k hk e => e.elim (h.nes k hk).1 (h.nes k hk).2.1) fun k hk e => e.elim (h.nel k hk).1 (h.nel k hk).2.1
theorem LgM.free (h : LgM w b0 p d m L vs vl) (j : Nat) : w.frozen? ⟨p, j, none⟩ = false := by unfold World.frozen?; rw [h.obj]; simp
end
section
variable {w : World} {b0 p d m : Nat} {L : Lg} {vs vl : Value}
theorem wfirst_calls (h : LgM w b0 p d m L vs vl) : Calls Tryz.prog 14 #[.pointer (some ⟨p, 0, none⟩)] w fun e w' => e = .returned (.int .i64 L.first) ∧ w = w' := by
  have c3 : w.cell? ⟨p, 3, none⟩ = some (.int .i64 L.first) := cellAt h.obj 3 rfl
  have lp := heap_lt h.obj
  clear h
  go_enter Tryz.func14, Tryz.ntmps14
  go_wp2
  go_ret
  exact ⟨rfl, rfl⟩
theorem wnext_calls (h : LgM w b0 p d m L vs vl) (hk : L.first + L.l.length ≤ 1099511627776) : Calls Tryz.prog 15 #[.pointer (some ⟨p, 0, none⟩)] w fun e w' => e = .returned (.int .i64 (L.first + L.l.length : Nat)) ∧ Fr No w w' := by
  obtain ⟨a, cap, hv, h1, h2, _⟩ := h.recs.shape
  rw [List.length_map] at hv
  have c3 : w.drew.cell? ⟨p, 3, none⟩ = some (.int .i64 L.first) := cellAt h.obj 3 rfl
  have c4 : w.drew.cell? ⟨p, 4, none⟩ = some vl := cellAt h.obj 4 rfl
  rw [hv] at c4
  have d3 : w.cell? ⟨p, 3, none⟩ = some (.int .i64 L.first) := c3
  have d4 : w.cell? ⟨p, 4, none⟩ = some (.slice a L.l.length cap) := c4
  have hwr : IntKind.i64.wrap ((L.first : Int) + (L.l.length : Int)) = (L.first : Int) + (L.l.length : Int) := by rw [IntKind.wrap_i64]; omega
  clear h h1 h2 hv
  generalize L.first = x at *
  generalize L.l.length = y at *
  go_enter Tryz.func15, Tryz.ntmps15
  go_upto_region 3 with fail
  go_region_held3 (fun W => W.cell? ⟨p, 3, none⟩ = some (.int .i64 x) ∧ W.cell? ⟨p, 4, none⟩ = some (.slice a y cap)) (first | exact ⟨d3, d4⟩ | exact ⟨c3, c4⟩) (fail)
  go_wp2
  go_ret
  exact ⟨rfl, (Fr.refl _ _).drew⟩
theorem wlast_none (h : LgM w b0 p d m L vs vl) (hs : L.segs = []) : Calls Tryz.prog 29 #[.pointer (some ⟨p, 0, none⟩)] w fun e w' => e = .returned (.pointer none) ∧ w = w' := by
  obtain ⟨a, cap, hv, h1, h2, _⟩ := h.segs.shape
  have c2 : w.cell? ⟨p, 2, none⟩ = some vs := cellAt h.obj 2 rfl
  rw [hv, hs] at c2
  have lp := heap_lt h.obj
  have c2' : w.cell? ⟨p, 2, none⟩ = some (.slice a 0 cap) := c2
  clear h h1 h2 hv hs c2
  go_enter Tryz.func29, Tryz.ntmps29
  go_wp2
  go_ret
  exact ⟨rfl, rfl⟩
theorem wlast_some {g o cap : Nat} {T : List (Nat × Nat)} {s : Nat × Nat} (h : LgM w b0 p d m L (.slice (some ⟨g, o, none⟩) (T.length + 1) cap) vl) (hs : L.segs = T ++ [s]) (hT : T.length ≤ 1099511627776) : Calls Tryz.prog 29 #[.pointer (some ⟨p, 0, none⟩)] w fun e w' => e = .returned (.pointer (some ⟨g, o + T.length * 2, none⟩)) ∧ Fr No w w' := by
  have c2 : w.cell? ⟨p, 2, none⟩ = some (.slice (some ⟨g, o, none⟩) (T.length + 1) cap) := cellAt h.obj 2 rfl
  have d2 : w.drew.cell? ⟨p, 2, none⟩ = some (.slice (some ⟨g, o, none⟩) (T.length + 1) cap) := c2
  have lp := heap_lt h.obj
  clear h hs
  generalize T.length = n at *
  have h0 : ¬ ((n : Int) + 1 = 0) := by omega
  have hwr : IntKind.i64.wrap ((n : Int) + 1 - 1) = n := by rw [IntKind.wrap_i64]; omega
  have hwr2 : IntKind.i64.wrap (n : Int) = n := by rw [IntKind.wrap_i64]; omega
  have hn0 : (0 : Int) ≤ (n : Int) := by omega
  have hn1 : (n : Int) < (n : Int) + 1 := by omega
  go_enter Tryz.func29, Tryz.ntmps29
  go_upto_region 3 with fail
  go_region_held3 (fun W => W.cell? ⟨p, 2, none⟩ = some (.slice (some ⟨g, o, none⟩) (n + 1) cap)) (first | exact c2 | exact d2) (fail)
  go_wp2
  go_ret
  exact ⟨rfl, (Fr.refl _ _).drew⟩
theorem wlives_calls {D : Dk} (h : LgM w b0 p d m L vs vl) (a : DkM w d m D) : Calls Tryz.prog 26 #[.pointer (some ⟨p, 0, none⟩)] w fun e w' => e = .returned (.int .i64 (if D.dead = true then 20 else 0)) ∧ Fr No w w' := by
  have c0 : w.cell? ⟨p, 0, none⟩ = some (.pointer (some ⟨d, 0, none⟩)) := cellAt h.obj 0 rfl
  have lp := heap_lt h.obj
  have HP := Lib.hid a.pre
  cases hd : D.dead with
  | true =>
    rw [hd] at HP
    clear h a hd
    go_enter Tryz.func26, Tryz.ntmps26
    go_wp2_with (go_at_call 22; (with_reducible refine HP.out.mono ?_); rintro e w1 ⟨rfl, hf1⟩)
    go_ret
    exact ⟨rfl, hf1⟩
  | false =>
    rw [hd] at HP
    clear h a hd
    go_enter Tryz.func26, Tryz.ntmps26
    go_wp2_with (go_at_call 22; (with_reducible refine HP.out.mono ?_); rintro e w1 ⟨rfl, hf1⟩)
    go_ret
    exact ⟨rfl, hf1⟩
end
end Go.Proofs.YtillejdjghlicaaGreatDoor
