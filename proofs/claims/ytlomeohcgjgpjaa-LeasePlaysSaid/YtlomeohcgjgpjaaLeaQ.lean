/- The table in memory that is the document's (Lea); New, Grant and Renew over it. The condition: numbers of int's range, at most 1000 calls. -/
import Derived.Test.YtlomeohcgjgpjaaLeaP
import Derived.Test.YtlomeohcgjgpjaaLeaD
namespace Go.Proofs.Ytlomeohcgjgpjaa
open Go Go.Proofs Go.RowKit
set_option maxRecDepth 100000

/-- In memory at t lies the document's table R, behind at most n calls. -/
def Lea (n : Nat) (w : World) (t : Nat) (R : List LV) (F : Nat → Prop) : Prop := ∃ T, LeaAt w t T F ∧ TOk n T ∧ T.view = R
def LeaTo (n : Nat) (w w' : World) (t : Nat) (F : Nat → Prop) (R' : List LV) : Prop := ∃ F', Lea n w' t R' F' ∧ Fr F w w' ∧ ∀ b, F' b → F b ∨ w.heap.size ≤ b
theorem Lea.fr {n : Nat} {w w' : World} {t : Nat} {R : List LV} {F X : Nat → Prop} (h : Lea n w t R F) (hf : Fr X w w') (hn : ∀ b, F b → ¬ X b) : Lea n w' t R F := by
  obtain ⟨T, h1, h2⟩ := h
  exact ⟨T, h1.fr hf hn, h2⟩
theorem Lea.fr0 {n : Nat} {w w' : World} {t : Nat} {R : List LV} {F : Nat → Prop} (h : Lea n w t R F) (hf : Fr No w w') : Lea n w' t R F := h.fr hf fun _ _ h => h
theorem Lea.lt {n : Nat} {w : World} {t : Nat} {R : List LV} {F : Nat → Prop} (h : Lea n w t R F) : ∀ b, F b → b < w.heap.size := by
  obtain ⟨T, h1, _⟩ := h
  exact h1.lt
theorem Lea.ok {n : Nat} {w : World} {t : Nat} {R : List LV} {F : Nat → Prop} (h : Lea n w t R F) : ROk n R := by
  obtain ⟨T, _, h2, rfl⟩ := h
  exact h2.ok
theorem Lea.up {n m : Nat} {w : World} {t : Nat} {R : List LV} {F : Nat → Prop} (h : Lea n w t R F) (hm : n ≤ m) : Lea m w t R F := by
  obtain ⟨T, h1, h2, h3⟩ := h
  exact ⟨T, h1, h2.up hm, h3⟩
theorem Lea.to {n m : Nat} {w : World} {t : Nat} {R : List LV} {F : Nat → Prop} (h : Lea n w t R F) (hm : n ≤ m) {w' : World} (hf : Fr No w w') : LeaTo m w w' t F R := ⟨F, (h.up hm).fr0 hf, hf.mono fun _ _ s => s.elim, fun _ h => .inl h⟩
/-- Behind New. -/
def NewTo (w w' : World) (e : Ending) : Prop := ∃ t F, e = .returned (.pointer (some ⟨t, 0, none⟩)) ∧ Lea 0 w' t [] F ∧ Fr No w w' ∧ ∀ b, F b → w.heap.size ≤ b
theorem New_calls (w : World) : Calls Try.prog 22 #[] w fun e w' => NewTo w w' e := by
  have hmm : ∀ w, (Instr.makeMap 63 none).run Try.prog w = .ok (.map (some w.heap.size)) (w.alloc (.map #[] 0)) := fun w => run_makeMap 63 w
  have hmn : ∀ w, (Instr.makeMap 64 none).run Try.prog w = .ok (.map (some w.heap.size)) (w.alloc (.map #[] 0)) := fun w => run_makeMap 64 w
  go_enter Try.func22, Try.ntmps22
  go_wp2
  go_ret
  have h1 : MapAt (((w.alloc (.map #[] 0)).alloc (.map #[] 0)).alloc (.cells #[.map (some w.heap.size), .map (some (w.heap.size + 1)), .int .i64 0, .slice none 0 0] 68)) w.heap.size fun _ => none := ((MapAt.made w).alloc _).alloc _
  have h2 : MapS (((w.alloc (.map #[] 0)).alloc (.map #[] 0)).alloc (.cells #[.map (some w.heap.size), .map (some (w.heap.size + 1)), .int .i64 0, .slice none 0 0] 68)) (w.heap.size + 1) fun _ => none := by
    have := (MapS.made (w.alloc (.map #[] 0))).fr ((Fr.refl No _).alloc (.cells #[.map (some w.heap.size), .map (some (w.heap.size + 1)), .int .i64 0, .slice none 0 0] 68)) id
    simpa using this
  have hf : Fr No w (((w.alloc (.map #[] 0)).alloc (.map #[] 0)).alloc (.cells #[.map (some w.heap.size), .map (some (w.heap.size + 1)), .int .i64 0, .slice none 0 0] 68)) := (((Fr.refl No w).alloc _).alloc _).alloc _
  refine ⟨w.heap.size + 2, leaF (w.heap.size + 2) w.heap.size (w.heap.size + 1) (.slice none 0 0) fun _ => No, rfl, ⟨⟨[], 0, []⟩, ⟨w.heap.size, w.heap.size + 1, .slice none 0 0, fun _ => none, fun _ => No, ⟨⟨68, alloc_at _ _ _ (by simp)⟩, h1, h2, SlF.nil _ _ _ _, ?_, ?_, by omega, ?_, ?_, ?_, ?_, ?_⟩, fun _ => Iff.rfl⟩, TOk.nil, rfl⟩, hf, ?_⟩
  · intro i l h; simp [getL] at h
  · exact fun i _ => ⟨rfl, fun _ h => h⟩
  · exact ⟨by simp [Value.ownBlock], fun _ h => h⟩
  · exact ⟨by simp [Value.ownBlock], fun _ h => h⟩
  · exact ⟨by simp [Value.ownBlock], fun _ h => h⟩
  · exact fun _ _ _ h => h
  · exact fun _ _ _ h => h.elim
  · rintro b (rfl | rfl | rfl | h | ⟨_, h⟩)
    · omega
    · omega
    · omega
    · simp [Value.ownBlock] at h
    · exact h.elim
/-- What begin leaves, told of the document's table. -/
theorem BegOut.to {w w' : World} {t m o : Nat} {qv : Value} {hp : Int → Option Nat} {FL : Int → Nat → Prop} {T : LT} {id : Int} {l : Ls} (h : BegOut w w' t m o qv hp FL T id l) {F : Nat → Prop} (hF : ∀ b, F b ↔ leaF t m o qv FL b) {n : Nat} {R : List LV}
    (hok : ∀ q', HeapOk q' → q'.Perm (T.q ++ [(T.now + l.ticks, id)]) → TOk n ⟨setL T.L id (begF T.now), T.now, q'⟩ ∧ LT.view ⟨setL T.L id (begF T.now), T.now, q'⟩ = R) : LeaTo n w w' t F R := by
  obtain ⟨qv', q', FL', h1, h2, h3, h4, h5⟩ := h
  obtain ⟨g1, g2⟩ := hok q' h2 h3
  exact ⟨_, ⟨_, ⟨m, o, qv', hp, FL', h1, fun _ => Iff.rfl⟩, g1, g2⟩, h4.mono fun b _ hb => (hF b).2 hb, fun b hb => (h5 b hb).imp (hF b).2 fun h => h⟩
theorem getR_T {T : LT} (id : Int) : getR T.view id = (getL T.L id).map fun l => viewL T.now (id, l) := getL_view _ _ _
/-- What Renew answers. -/
def renewV (x : Option LV) : Value := match x with
  | some x => .tuple #[.int .i64 x.ticks, .int .i64 0]
  | none => .tuple #[.int .i64 0, .int .i64 35]
set_option maxHeartbeats 2000000 in
theorem Renew_calls {n : Nat} (hn : n ≤ 1000) {w : World} {t : Nat} {R : List LV} {F : Nat → Prop} (h : Lea n w t R F) (id : Int) (hwf : (Lit.int .i64 id).wf = true) :
    Calls Try.prog 33 #[.pointer (some ⟨t, 0, none⟩), .int .i64 id] w fun e w' => e = .returned (renewV (getR R id)) ∧ LeaTo (n + 1) w w' t F (if (getR R id).isSome then renewR R id else R) := by
  have hL := h
  obtain ⟨T, ⟨m, o, qv, hp, FL, a, hF⟩, hT, rfl⟩ := h
  have hfc := find_calls a id hwf
  rw [getR_T]
  cases hl : getL T.L id with
  | none =>
    have hg := (a.gone id hl).1
    rw [hg] at hfc
    have HFC := Lib.hid hfc
    have HL := Lib.hid hL
    clear hfc hL a hF hl hg hT
    unfold findV ptrO at HFC
    go_enter Try.func33, Try.ntmps33
    go_wp2_with (go_at_call 36; (with_reducible refine HFC.out.mono ?_); rintro e w' ⟨rfl, rfl⟩; dsimp only [Option.map_none, Option.isSome_none])
    go_ret2
    exact ⟨rfl, HL.out.to (Nat.le_succ _) (Fr.refl _ _)⟩
  | some l =>
    obtain ⟨p, hpp, hls⟩ := a.ls id l hl
    rw [hpp] at hfc
    have hnum := hT.num _ (getL_mem hl)
    have hn0 := hT.now0
    have hn1 := hT.now1
    dsimp only at hnum
    unfold maxT at hnum hn1
    have hb := begin_calls a id p l hl hpp hT.heap (by have := hT.qlen; omega) hn0 (by omega) (by omega) (by omega)
    have hok : ∀ q', HeapOk q' → q'.Perm (T.q ++ [(T.now + l.ticks, id)]) → TOk (n + 1) ⟨setL T.L id (begF T.now), T.now, q'⟩ ∧ LT.view ⟨setL T.L id (begF T.now), T.now, q'⟩ = renewR T.view id := fun q' h1 h2 => hT.renew hl h2 h1
    have hto : ∀ w', BegOut w w' t m o qv hp FL T id l → LeaTo (n + 1) w w' t F (renewR T.view id) := fun w' hb => hb.to hF hok
    have hcell : ∀ w', BegOut w w' t m o qv hp FL T id l → w'.cell? ⟨p, 0, none⟩ = some (.int .i64 l.ticks) ∧ p < w'.heap.size := by
      rintro w' ⟨qv', q', FL', h1, _⟩
      obtain ⟨p2, h3, kv, h4, _⟩ := h1.ls id (begF T.now l) (by rw [getL_set, hl, Option.map_some, if_pos rfl])
      rw [hpp] at h3
      cases h3
      exact ⟨h4.obj.cell 0 rfl, h4.obj.lt⟩
    have HFC := Lib.hid hfc
    have HB := Lib.hid hb
    have HTO := Lib.hid hto
    have HC := Lib.hid hcell
    have hlp := hls.lt p hls.own
    clear hfc hb hto hcell hok hL a hF hl hT hpp hls
    unfold findV ptrO at HFC
    go_enter Try.func33, Try.ntmps33
    go_wp2_with (first
      | (go_at_call 36; (with_reducible refine HFC.out.mono ?_); rintro e w' ⟨rfl, rfl⟩; dsimp only [Option.map_some, Option.isSome_some])
      | (go_at_call 49; (with_reducible refine HB.out.mono ?_); rintro e w2 ⟨rfl, hb2⟩; obtain ⟨c0, lp2⟩ := HC.out w2 hb2; have HB2 := Lib.hid hb2; clear hb2))
    go_ret2
    exact ⟨rfl, HTO.out _ HB2.out⟩
end Go.Proofs.Ytlomeohcgjgpjaa
