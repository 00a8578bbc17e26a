/- The package index: a node taken, a node dropped. The condition: not too many nodes. -/
import Derived.Test.YthljnnjpmdgkoaaG29
namespace Go.Proofs.Ythljnnjpmdgkoaa
open Go Go.Proofs Go.RowKit
set_option maxRecDepth 100000
theorem info198 : (Try.prog.info? 198).map (fun i => (i.zero, i.size, i.bytes)) = some (some (.agg #[.slice none 0 0, .slice none 0 0]), 2, 48) := by kernel_rfl
def nz0 : Nz := ⟨nd0, .slice none 0 0, .slice none 0 0⟩

theorem takeZ {Z : List Nz} : ndsZ (Z ++ [nz0]) = ndsZ Z ++ [nd0] := by unfold ndsZ; simp [nz0]

set_option maxHeartbeats 1000000 in
theorem take_some (w : World) (t : Nat) (A : Arr) (fl : List Nat) (root : Nat) (many : Int) (F : Nat → Prop) (h : TreeZ w t A fl root many F) (hA : A.length ≤ 1099511627) (hl : fl.length ≤ 1099511627) (hne : fl ≠ []) :
    Calls Try.prog 142 #[.pointer (some ⟨t, 0, none⟩)] w fun e w' => e = .returned (.int .i64 (takeI A fl : Int)) ∧ ∃ F', TreeZ w' t (takeA A fl) fl.dropLast root many F' ∧ Fr F w w' ∧ ∀ b, F' b → F b ∨ w.heap.size ≤ b := by
  obtain ⟨nv, fv, Z, h, rfl, hF⟩ := h
  have c1 := h.obj.cell 1 rfl
  have f1 := h.obj.free 1
  have hpos : 0 < fl.length := List.length_pos_iff.2 hne
  obtain ⟨a, cap, rfl, hc1, hc2, ha⟩ := h.free.shape
  obtain ⟨fb, fo, rfl⟩ := ha hpos
  have hx : fl[fl.length - 1]? = some (fl.getLast hne) := by
    rw [List.getLast_eq_getElem]; exact List.getElem?_eq_getElem _
  have d0 := h.free.cell1 nat1_length (fl.length - 1) hx rfl
  have htI : takeI (ndsZ Z) fl = fl.getLast hne := by unfold takeI; rw [List.getLast?_eq_some_getLast hne]; rfl
  have htA : takeA (ndsZ Z) fl = ndsZ Z := by unfold takeA; rw [if_neg hne]
  have hs := h.free.take nat1_length (fl.length - 1) (by omega)
  rw [← List.dropLast_eq_take] at hs
  have hln : fl.dropLast.length = fl.length - 1 := by simp
  have HS : Hid (SlF w 3 1 nat1 (.slice (some ⟨fb, fo, none⟩) (fl.length - 1) cap) fl.dropLast) := Lib.hid hs
  have H := Lib.hid h
  have HI := Lib.hid htI
  have HTA := Lib.hid htA
  have HFF := Lib.hid hF
  generalize fl.getLast hne = x at *
  have hz0 : (0 : Int) < (fl.length : Int) := by omega
  have hj1 : (0 : Int) ≤ (fl.length : Int) - 1 := by omega
  have hj2 : (fl.length : Int) - 1 ≤ (cap : Int) := by omega
  have hj3 : ((fl.length : Int) - 1).toNat = fl.length - 1 := by omega
  have hj4 : (fl.length : Int) - 1 < (fl.length : Int) := by omega
  have hj5 : (fl.length : Int) ≤ 1099511627 := by omega
  clear h hs htI htA hF hx ha hln
  generalize hN : fl.length = n at *
  go_enter Try.func142, Try.ntmps142
  go_wp2
  go_ret
  have hset := H.out.setFree (w1 := w) (fl' := fl.dropLast) (fv' := .slice (some ⟨fb, fo, none⟩) (n - 1) cap) (Fr.refl _ w) HS.out (fun b e => .inl e)
  obtain ⟨q1, q2, q3⟩ := hset
  refine ⟨by rw [HI.out]; rfl, _, ⟨_, _, Z, q1, HTA.out.symm, fun b => Iff.rfl⟩, q2.mono fun b _ e => (HFF.out b).2 ?_, fun b hb => ?_⟩
  · rcases e with e | e
    · exact .inl e
    · exact .inr (.inr (.inl e))
  · rcases q3 b hb with e | e
    · exact .inl ((HFF.out b).2 e)
    · exact .inr e

set_option maxHeartbeats 1000000 in
theorem take_none (w : World) (t : Nat) (A : Arr) (root : Nat) (many : Int) (F : Nat → Prop) (h : TreeZ w t A [] root many F) (hA : A.length ≤ 1099511627) :
    Calls Try.prog 142 #[.pointer (some ⟨t, 0, none⟩)] w fun e w' => e = .returned (.int .i64 (takeI A [] : Int)) ∧ ∃ F', TreeZ w' t (takeA A []) [] root many F' ∧ Fr F w w' ∧ ∀ b, F' b → F b ∨ w.heap.size ≤ b := by
  obtain ⟨nv, fv, Z, h, rfl, hF⟩ := h
  rw [ndsZ_len] at hA
  have c0 := h.obj.cell 0 rfl
  have c1 := h.obj.cell 1 rfl
  have f0 := h.obj.free 0
  obtain ⟨i0, hi0, hz0, hz1, hz2⟩ := info_parts info198
  obtain ⟨a, cap, rfl, hc1, hc2, ha⟩ := h.free.shape
  have hnew := cells_new w [.slice none 0 0, .slice none 0 0] 198 (0, 0)
  have H := Lib.hid h
  have HFF := Lib.hid hF
  have HN := Lib.hid h.nodes
  have hlt := h.obj.lt
  have hnt : ¬ nv.ownBlock = some t := h.a1.1
  clear h hF ha
  go_enter Try.func142, Try.ntmps142
  go_wp2_with (at_builtin; refine wpList_append_f rfl _ _ 175 rfl 198 i0 _ 2 48 Try.underlying175 hi0 hz0 hz1 hz2 rfl (by decide) nv Z rfl (HN.out.alloc _) w.heap.size 1 nz0 rfl (by simpa [nzC, nz0] using hnew) rfl (by intro u hu; simp [nzC, nz0] at hu; subst hu; rfl) (by unfold maxLen; omega) (by omega) ?_)
  intro g o cap' w1 hs1 hg1 hb1 hlt1
  have hF1 : Fr (fun b => nv.ownBlock = some b) w w1 := (((Fr.refl _ w).alloc _).grown hg1 fun k hk => .inl hk)
  have e0 := hF1.cell c0 hnt
  have e1 := hF1.cell c1 hnt
  have g0 := hF1.free c0 f0 hnt
  have HS1 := Lib.hid hs1
  have HB1 := Lib.hid hb1
  have HF1 := Lib.hid hF1
  clear hs1 hg1 hb1 hF1 c0 c1 f0 hnew
  have hj : (0 : Int) ≤ (Z.length : Int) := by omega
  go_wp2
  go_ret
  have hL : (Z ++ [nz0]).length = Z.length + 1 := by simp
  have hset := H.out.snoc (w1 := w1) (nv' := .slice (some ⟨g, o, none⟩) (Z.length + 1) cap') HF1.out HS1.out fun b e => by
    obtain rfl : g = b := by simpa [Value.ownBlock] using e
    rcases HB1.out with e | e
    · exact .inl e
    · right; omega
  obtain ⟨q1, q2, q3⟩ := hset
  refine ⟨?_, _, ⟨_, _, _, q1, by unfold takeA; rw [if_pos rfl]; exact takeZ, fun b => Iff.rfl⟩, q2.mono fun b _ e => (HFF.out b).2 ?_, fun b hb => ?_⟩
  · unfold takeI
    rw [List.getLast?_nil, ndsZ_len]
    rfl
  · rcases e with e | e
    · exact .inl e
    · exact .inr (.inl e)
  · rcases q3 b hb with e | e
    · exact .inl ((HFF.out b).2 e)
    · exact .inr e

theorem take_calls (w : World) (t : Nat) (A : Arr) (fl : List Nat) (root : Nat) (many : Int) (F : Nat → Prop) (h : TreeZ w t A fl root many F) (hA : A.length ≤ 1099511627) (hl : fl.length ≤ 1099511627) :
    Calls Try.prog 142 #[.pointer (some ⟨t, 0, none⟩)] w fun e w' => e = .returned (.int .i64 (takeI A fl : Int)) ∧ ∃ F', TreeZ w' t (takeA A fl) fl.dropLast root many F' ∧ Fr F w w' ∧ ∀ b, F' b → F b ∨ w.heap.size ≤ b := by
  by_cases hne : fl = []
  · subst hne; exact take_none w t A root many F h hA
  · exact take_some w t A fl root many F h hA hl hne

/-- A node is emptied, and counted free. -/
def dropA (A : Arr) (at_ : Nat) : Arr := A.set at_ nd0
set_option maxHeartbeats 1000000 in
theorem drop_calls (w : World) (t : Nat) (A : Arr) (fl : List Nat) (root : Nat) (many : Int) (F : Nat → Prop) (h : TreeZ w t A fl root many F) (at_ : Nat) (hat : at_ < A.length) (hA : A.length ≤ 1099511627) (hl : fl.length ≤ 1099511627) :
    Calls Try.prog 120 #[.pointer (some ⟨t, 0, none⟩), .int .i64 at_] w fun e w' => e = .returned (.tuple #[]) ∧ ∃ F', TreeZ w' t (A.set at_ nd0) (fl ++ [at_]) root many F' ∧ Fr F w w' ∧ ∀ b, F' b → F b ∨ w.heap.size ≤ b := by
  obtain ⟨nv, fv, Z, h, rfl, hF⟩ := h
  obtain ⟨z, hz, _⟩ := ndsZ_some hat
  rw [ndsZ_len] at hA hat
  have c0 := h.obj.cell 0 rfl
  have c1 := h.obj.cell 1 rfl
  have f1 := h.obj.free 1
  obtain ⟨i0, hi0, hz0, hz1, hz2⟩ := info_parts info3
  obtain ⟨a, cap, rfl, hc1, hc2, ha⟩ := h.nodes.shape
  obtain ⟨nb, no, rfl⟩ := ha (by omega)
  have n0 := h.nodes.cell0 nzC_length at_ hz rfl
  have n1 := h.nodes.cell nzC_length at_ 1 hz rfl
  have nf := h.nodes.free (no + at_ * 2)
  have nf1 := h.nodes.free (no + at_ * 2 + 1)
  have htn : t ≠ nb := fun e => h.a1.1 (by rw [e]; rfl)
  have hp := h.setPairs (w1 := w) (pv' := .slice none 0 0) (P' := []) at_ z hz (Fr.refl _ w) (SlF.nil _ _ _ _) (fun b e => by simp [Value.ownBlock] at e)
  obtain ⟨p1, p2, p3⟩ := hp
  have hz2' : (Z.set at_ ⟨⟨[], z.nd.kids⟩, .slice none 0 0, z.kv⟩)[at_]? = some ⟨⟨[], z.nd.kids⟩, .slice none 0 0, z.kv⟩ := List.getElem?_set_self hat
  have p1' : TreeR (w.setCell ⟨nb, no + at_ * 2, none⟩ (.slice none 0 0)) t (.slice (some ⟨nb, no, none⟩) (Z.set at_ ⟨⟨[], z.nd.kids⟩, .slice none 0 0, z.kv⟩).length cap) fv (Z.set at_ ⟨⟨[], z.nd.kids⟩, .slice none 0 0, z.kv⟩) fl root many := by rw [List.length_set]; exact p1
  have hk := p1'.setKids (w1 := w.setCell ⟨nb, no + at_ * 2, none⟩ (.slice none 0 0)) (kv' := .slice none 0 0) (K' := []) at_ _ hz2' (Fr.refl _ _) (SlF.nil _ _ _ _) (fun b e => by simp [Value.ownBlock] at e)
  obtain ⟨k1, k2, k3⟩ := hk
  rw [List.set_set, List.length_set] at k1
  have hFz : ∀ b, treeF t (.slice (some ⟨nb, no, none⟩) Z.length cap) fv (Z.set at_ nz0) b → treeF t (.slice (some ⟨nb, no, none⟩) Z.length cap) fv Z b ∨ w.heap.size ≤ b :=
    treeF_set hz fun b hb => by rcases hb with e | e <;> simp [Value.ownBlock, nz0] at e
  have hK1 : TreeR ((w.setCell ⟨nb, no + at_ * 2, none⟩ (.slice none 0 0)).setCell ⟨nb, no + at_ * 2 + 1, none⟩ (.slice none 0 0)) t (.slice (some ⟨nb, no, none⟩) Z.length cap) fv (Z.set at_ nz0) fl root many := k1
  have hFR : Fr F w ((w.setCell ⟨nb, no + at_ * 2, none⟩ (.slice none 0 0)).setCell ⟨nb, no + at_ * 2 + 1, none⟩ (.slice none 0 0)) := by
    refine (((Fr.refl F w).setCell (p := ⟨nb, no + at_ * 2, none⟩) (.inl ?_) _).setCell (p := ⟨nb, no + at_ * 2 + 1, none⟩) (.inl ?_) _) <;> exact (hF nb).2 (.inr (.inl rfl))
  have hlnb := h.nodes.lt nb rfl
  have hlt := h.obj.lt
  have H := Lib.hid hK1
  have HFZ := Lib.hid hFz
  have HFF := Lib.hid hF
  have HFR := Lib.hid hFR
  clear h hF ha p1 p2 p3 p1' k1 k2 k3 hK1 hFz hFR hz hz2'
  have hj : (at_ : Int) < (Z.length : Int) := by omega
  have hnew := cells_new ((w.setCell ⟨nb, no + at_ * 2, none⟩ (.slice none 0 0)).setCell ⟨nb, no + at_ * 2 + 1, none⟩ (.slice none 0 0)) [.int .i64 (at_ : Int)] 3 (0, 0)
  have hsz : ((w.setCell ⟨nb, no + at_ * 2, none⟩ (.slice none 0 0)).setCell ⟨nb, no + at_ * 2 + 1, none⟩ (.slice none 0 0)).heap.size = w.heap.size := by simp
  rw [hsz] at hnew
  have HSZ := Lib.hid hsz
  clear hsz
  go_enter Try.func120, Try.ntmps120
  go_wp2_with (at_builtin; refine wpList_append_f rfl _ _ 149 rfl 3 i0 _ 1 8 Try.underlying149 hi0 hz0 hz1 hz2 rfl (by decide) fv fl rfl (H.out.free.alloc _) w.heap.size 1 at_ rfl (by simpa [nat1] using hnew) rfl (by intro u hu; simp [nat1] at hu; subst hu; rfl) (by unfold maxLen; omega) (by omega) ?_)
  generalize ((w.setCell ⟨nb, no + at_ * 2, none⟩ (.slice none 0 0)).setCell ⟨nb, no + at_ * 2 + 1, none⟩ (.slice none 0 0)) = W1 at *
  intro g o cap' w1 hs1 hg1 hb1 hlt1
  have hF1 : Fr (fun b => fv.ownBlock = some b) W1 w1 := (((Fr.refl _ W1).alloc _).grown hg1 fun k hk => .inl hk)
  have hnt : ¬ fv.ownBlock = some t := H.out.a1.2.1
  have e1 := hF1.cell (H.out.obj.cell 1 rfl) hnt
  have g1 := hF1.free (H.out.obj.cell 1 rfl) (H.out.obj.free 1) hnt
  have HS1 := Lib.hid hs1
  have HB1 := Lib.hid hb1
  have HF1 := Lib.hid hF1
  clear hs1 hg1 hb1 hF1 c0 c1 f1 hnew n0 n1 nf nf1
  go_wp2
  refine bodyPost_end (results_none rfl _ _ _) rfl ⟨rfl, ?_⟩
  have hset := H.out.setFree (w1 := w1) (fl' := fl ++ [at_]) (fv' := .slice (some ⟨g, o, none⟩) (fl.length + 1) cap') HF1.out HS1.out fun b e => by
    obtain rfl : g = b := by simpa [Value.ownBlock] using e
    rcases HB1.out with e | e
    · exact .inl e
    · right; have := HSZ.out; omega
  obtain ⟨q1, q2, q3⟩ := hset
  refine ⟨_, ⟨_, _, _, q1, by rw [ndsZ_set]; rfl, fun b => Iff.rfl⟩, HFR.out.trans q2 fun b hb e => (HFF.out b).2 ?_, fun b hb => ?_⟩
  · rcases e with e | e
    · exact .inl e
    · exact .inr (.inr (.inl e))
  · rcases q3 b hb with e | e
    · rcases HFZ.out b e with e | e
      · exact .inl ((HFF.out b).2 e)
      · exact .inr e
    · right; have := HSZ.out; omega
end Go.Proofs.Ythljnnjpmdgkoaa
