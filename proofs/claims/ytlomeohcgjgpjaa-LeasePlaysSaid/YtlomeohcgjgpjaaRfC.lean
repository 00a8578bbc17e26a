/- The document's table in memory (chanceryref14): its Renew and Tick do what the document's table does. -/
import Derived.Test.YtlomeohcgjgpjaaRfA
namespace Go.Proofs.Ytlomeohcgjgpjaa
open Go Go.Proofs Go.RowKit
set_option maxRecDepth 100000

/-- The blocks G and all that were made between two worlds. -/
def grow (G : Nat → Prop) (w w' : World) (b : Nat) : Prop := G b ∨ (w.heap.size ≤ b ∧ b < w'.heap.size)
/-- Behind a call of the document's table. -/
def RfTo (w w' : World) (t : Nat) (R : List LV) (G : Nat → Prop) : Prop := ∃ v P, Rf w' t v P (grow G w w') ∧ P.map (·.1) = R ∧ Fr G w w'
theorem Rf.more {w : World} {t : Nat} {v : Value} {P : List (LV × Value)} {G G' : Nat → Prop} (h : Rf w t v P G) (h1 : ∀ b, G b → G' b) (h2 : ∀ b, G' b → b < w.heap.size) : Rf w t v P G' :=
  ⟨h.tab, h.sl, ⟨h1 _ h.own.1, h.own.2.1, fun b hb => h1 _ (h.own.2.2 b hb)⟩, fun p hp => ⟨(h.keys p hp).1, fun b hb => ⟨h1 _ ((h.keys p hp).2 b hb).1, ((h.keys p hp).2 b hb).2⟩⟩, h2⟩
theorem Rf.to_same {w w' : World} {t : Nat} {v : Value} {P : List (LV × Value)} {G : Nat → Prop} (h : Rf w t v P G) (hf : Fr No w w') : RfTo w w' t (P.map (·.1)) G :=
  ⟨v, P, (h.fr0 hf).more (fun _ hb => .inl hb) (fun b hb => hb.elim (fun hb => Nat.lt_of_lt_of_le (h.lt b hb) hf.size) fun hb => hb.2), rfl, hf.mono fun _ _ s => s.elim⟩
theorem Rf.len {w : World} {t : Nat} {a : Option Addr} {n cap : Nat} {P : List (LV × Value)} {G : Nat → Prop} (h : Rf w t (.slice a n cap) P G) : n = P.length := by
  obtain ⟨a', c', he, _⟩ := h.sl.shape
  cases he
  rfl
theorem Rf.cells {w : World} {t g o n cap : Nat} {P : List (LV × Value)} {G : Nat → Prop} (h : Rf w t (.slice (some ⟨g, o, none⟩) n cap) P G) {i : Nat} {x : LV} {kv : Value} (hx : P[i]? = some (x, kv)) :
    w.cell? ⟨g, o + i * 4, none⟩ = some (.int .i64 x.id) ∧ w.cell? ⟨g, o + i * 4 + 1, none⟩ = some (.int .i64 x.ticks) ∧ w.cell? ⟨g, o + i * 4 + 2, none⟩ = some (.int .i64 x.left) ∧ w.cell? ⟨g, o + i * 4 + 3, none⟩ = some kv := by
  have hl := h.len
  subst hl
  exact h.sl.cells4 lvC_length i hx rfl
theorem Rf.free {w : World} {t g o n cap : Nat} {P : List (LV × Value)} {G : Nat → Prop} (h : Rf w t (.slice (some ⟨g, o, none⟩) n cap) P G) (j : Nat) : w.frozen? ⟨g, j, none⟩ = false := by
  have hl := h.len
  subst hl
  exact h.sl.free j
theorem Rf.tfree {w : World} {t : Nat} {v : Value} {P : List (LV × Value)} {G : Nat → Prop} (h : Rf w t v P G) (j : Nat) : w.frozen? ⟨t, j, none⟩ = false := by
  have := h.tab
  simp [World.frozen?, this]
theorem Rf.set {w : World} {t g o n cap : Nat} {P : List (LV × Value)} {G : Nat → Prop} (h : Rf w t (.slice (some ⟨g, o, none⟩) n cap) P G) {i j : Nat} (hj : j < 4) {p p' : LV × Value} {u : Value} (hp : P[i]? = some p)
    (hp' : lvC p' = (lvC p).set j u) (hk : SlF w 9 1 strC p'.2 p'.1.keys ∧ ∀ b, p'.2.ownBlock = some b → G b ∧ b ≠ t ∧ g ≠ b) : Rf (w.setCell ⟨g, o + i * 4 + j, none⟩ u) t (.slice (some ⟨g, o, none⟩) n cap) (P.set i p') G := by
  have hl := h.len
  subst hl
  have hf : Fr (fun b => b = g) w (w.setCell ⟨g, o + i * 4 + j, none⟩ u) := Fr.setCell (p := ⟨g, o + i * 4 + j, none⟩) (Fr.refl (fun b => b = g) w) (.inl rfl) u
  have hgt : g ≠ t := fun e => h.own.2.1 (by rw [← e]; rfl)
  refine ⟨hf.heap h.tab fun e => hgt e.symm, h.sl.set lvC_length i j hj p p' u hp hp', h.own, fun q hq => ?_, fun b hb => by have := h.lt b hb; have := hf.size; omega⟩
  rcases List.mem_or_eq_of_mem_set hq with hq | rfl
  · have hq2 := h.keys q hq
    exact ⟨hq2.1.fr hf fun b hb e => (hq2.2 b hb).2.2 (by rw [e]; rfl), hq2.2⟩
  · exact ⟨hk.1.fr hf fun b hb e => (hk.2 b hb).2.2 e.symm, fun b hb => ⟨(hk.2 b hb).1, (hk.2 b hb).2.1, fun e => (hk.2 b hb).2.2 (by simpa [Value.ownBlock] using e)⟩⟩
theorem Rf.to_of {w w' : World} {t : Nat} {v : Value} {P : List (LV × Value)} {G : Nat → Prop} {R : List LV} (h : Rf w' t v P G) (hf : Fr G w w') (hR : P.map (·.1) = R) : RfTo w w' t R G :=
  ⟨v, P, h.more (fun _ hb => .inl hb) (fun b hb => hb.elim (h.lt b) fun hb => hb.2), hR, hf⟩
theorem RfTo.drew {w w' : World} {t : Nat} {R : List LV} {G : Nat → Prop} (h : RfTo w w' t R G) : RfTo w w'.drew t R G := by
  obtain ⟨v, P, h1, h2, h3⟩ := h
  exact ⟨v, P, ⟨h1.tab, h1.sl, h1.own, h1.keys, h1.lt⟩, h2, h3.drew⟩
/-- A function done at the first i leases. -/
def mapTo (f : LV → LV) (R : List LV) (i : Nat) : List LV := (R.take i).map f ++ R.drop i
theorem mapTo_zero (f : LV → LV) (R : List LV) : mapTo f R 0 = R := by simp [mapTo]
theorem mapTo_all (f : LV → LV) (R : List LV) : mapTo f R R.length = R.map f := by simp [mapTo]
theorem mapTo_length (f : LV → LV) (R : List LV) (i : Nat) : (mapTo f R i).length = R.length := by
  unfold mapTo
  rw [List.length_append, List.length_map, List.length_take, List.length_drop]
  omega
theorem mapTo_get {f : LV → LV} {R : List LV} {i : Nat} (hi : i < R.length) : (mapTo f R i)[i]? = R[i]? := by
  have h1 : ((R.take i).map f).length = i := by rw [List.length_map, List.length_take]; omega
  unfold mapTo
  rw [List.getElem?_append_right (by omega), h1, List.getElem?_drop]
  simp
theorem mapTo_set {f : LV → LV} {R : List LV} {i : Nat} {x : LV} (hx : R[i]? = some x) : (mapTo f R i).set i (f x) = mapTo f R (i + 1) := by
  obtain ⟨hi, rfl⟩ := List.getElem?_eq_some_iff.1 hx
  have h1 : ((R.take i).map f).length = i := by rw [List.length_map, List.length_take]; omega
  unfold mapTo
  rw [List.set_append_right _ _ (by omega), h1, List.drop_eq_getElem_cons hi, Nat.sub_self, List.set_cons_zero, List.take_add_one, List.getElem?_eq_getElem hi, List.map_append]
  simp
theorem set_map {R : List LV} {f : LV → LV} {i : Nat} {x : LV} (hr : R.Pairwise fun a b => a.id < b.id) (hx : R[i]? = some x) : R.set i (f x) = R.map fun y => if y.id = x.id then f y else y := by
  induction R generalizing i with
  | nil => simp at hx
  | cons z R ih =>
    obtain ⟨h1, h2⟩ := List.pairwise_cons.1 hr
    cases i with
    | zero =>
      simp only [List.getElem?_cons_zero, Option.some.injEq] at hx
      subst hx
      rw [List.set_cons_zero, List.map_cons, if_pos rfl]
      congr 1
      rw [List.map_congr_left (g := id) (fun y hy => by have := h1 y hy; rw [if_neg (by omega)]; rfl), List.map_id]
    | succ i =>
      simp only [List.getElem?_cons_succ] at hx
      have := h1 x (List.mem_of_getElem? hx)
      rw [List.set_cons_succ, List.map_cons, if_neg (by omega), ih h2 hx]
theorem map_set_fst {P : List (LV × Value)} {i : Nat} {p : LV × Value} : (P.set i p).map (·.1) = (P.map (·.1)).set i p.1 := List.map_set ..
/-- What the document's Renew answers. -/
def rrenTo (w w' : World) (t : Nat) (R : List LV) (G : Nat → Prop) (id : Int) (e : Ending) : Prop := match getR R id with
  | some x => e = .returned (.tuple #[.int .i64 x.ticks, .int .i64 0]) ∧ RfTo w w' t (renewR R id) G
  | none => e = .returned (.tuple #[.int .i64 0, .int .i64 35]) ∧ RfTo w w' t R G
set_option maxHeartbeats 2000000 in
theorem rrenew_calls {w : World} {t : Nat} {v : Value} {P : List (LV × Value)} {G : Nat → Prop} (h : Rf w t v P G) (hlen : P.length ≤ 100000) (hr : (P.map (·.1)).Pairwise fun a b => a.id < b.id) (id : Int) :
    Calls Try.prog 41 #[.pointer (some ⟨t, 0, none⟩), .int .i64 id] w fun e w' => rrenTo w w' t (P.map (·.1)) G id e := by
  have hat := at_calls h hlen id
  unfold idxR at hat
  unfold rrenTo
  cases hm : (P.map (·.1)).findIdx? fun x => x.id == id with
  | none =>
    rw [hm] at hat
    rw [idx_none hm]
    have HAT := Lib.hid hat
    have HS := Lib.hid (h.to_same (Fr.refl No w))
    clear h hat hm
    dsimp only at HAT ⊢
    go_enter Try.func41, Try.ntmps41
    go_wp2_with (go_at_call 45; (with_reducible refine HAT.out.mono ?_); rintro e w' ⟨rfl, rfl⟩)
    go_ret2
    exact ⟨rfl, HS.out⟩
  | some i =>
    rw [hm] at hat
    obtain ⟨x, hx, he, hg⟩ := idx_some hm
    rw [hg]
    have hil : i < P.length := by have := (List.getElem?_eq_some_iff.1 hx).1; simpa using this
    obtain ⟨p, hp⟩ : ∃ p, P[i]? = some p := ⟨_, List.getElem?_eq_getElem hil⟩
    have hpx : p.1 = x := by rw [List.getElem?_map, hp] at hx; simpa using hx
    have hst := set_map (f := fun y => { y with left := y.ticks }) hr hx
    subst hpx
    have hpm := List.mem_of_getElem? hp
    obtain ⟨a, cap, rfl, h1, h2, h3⟩ := h.sl.shape
    obtain ⟨ga, oa, rfl⟩ := h3 (by omega)
    have hc := h.cell
    have hgt : ga ≠ t := fun e => h.own.2.1 (by rw [← e]; rfl)
    obtain ⟨⟨xi, xt, xl, xk⟩, xv⟩ := p
    obtain ⟨f0, f1, f2, f3⟩ := h.cells hp
    have lf := World.block_lt_of_cell? _ _ f0
    have ff : w.frozen? ⟨ga, oa + i * 4 + 2, none⟩ = false := h.sl.free _
    have hset := h.set (j := 2) (by omega) (p' := (⟨xi, xt, xt, xk⟩, xv)) (u := .int .i64 xt) hp rfl ⟨(h.keys _ hpm).1, fun b hb => ⟨((h.keys _ hpm).2 b hb).1, ((h.keys _ hpm).2 b hb).2.1, fun e => ((h.keys _ hpm).2 b hb).2.2 (by rw [e]; rfl)⟩⟩
    have hgG : G ga := h.own.2.2 ga rfl
    have hfr : Fr G w (w.setCell ⟨ga, oa + i * 4 + 2, none⟩ (.int .i64 xt)) := (Fr.refl _ w).setCell (.inl hgG) _
    have hren : renewR (P.map (·.1)) id = (P.set i (⟨xi, xt, xt, xk⟩, xv)).map (·.1) := by
      rw [map_set_fst]
      dsimp only at hst he ⊢
      rw [hst, he]
      rfl
    have HTO := Lib.hid ((hset.to_of hfr hren.symm).drew)
    have HAT := Lib.hid hat
    have hili : (i : Int) < (P.length : Int) := by omega
    have hw0 : 0 ≤ (i : Int) := by omega
    have hlt : t < w.heap.size := World.block_lt_of_cell? _ _ hc
    have HLT := Lib.hid h.lt
    unfold maxLen at h2
    clear h hat hm hx hg hp hpm h3 he hst hset hfr hren f0 f3
    dsimp only at *
    go_enter Try.func41, Try.ntmps41
    go_upto_region 4 with (go_at_call 45; (with_reducible refine HAT.out.mono ?_); rintro e w' ⟨rfl, rfl⟩)
    go_region
    all_goals
      go_wp2
      go_ret2
      exact ⟨rfl, HTO.out⟩
end Go.Proofs.Ytlomeohcgjgpjaa
