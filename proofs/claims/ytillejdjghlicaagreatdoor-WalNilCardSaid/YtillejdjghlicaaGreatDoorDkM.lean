/- A disk in memory whose files are segments: each act as the plain disk does it. The conditions: what DkM says (numbers of at most ten digits, no more bytes than the limit). -/
import Derived.Test.YtillejdjghlicaaGreatDoorSegN
import Derived.Test.YtillejdjghlicaaGreatDoorDskE
namespace Go.Proofs.YtillejdjghlicaaGreatDoor
open Go Go.Proofs Go.RowKit Go.WideElems Go.ChangeMaps Go.WideMaps
set_option maxRecDepth 100000

/-- What acts answer that are refused. -/
def RR : Errs := ⟨20, 22, 21, by decide, by decide, by decide⟩
/-- A disk of segments in memory. -/
structure DkM (w : World) (d m : Nat) (D : Dk) : Prop where
  mem : DkAt w d m (fOf D.fs) D.lim D.armed D.dead
  ok : FsOk D.fs
  lim : D.lim ≤ 1073741824
  sz : sizeF D.fs ≤ D.lim
  arm : D.armed ≤ 9223372036854775807
section
variable {w w' : World} {d m : Nat} {D : Dk}
theorem DkM.fr {X : Nat → Prop} (a : DkM w d m D) (hf : Fr X w w') (h1 : ¬ X d) (h2 : ¬ X m) : DkM w' d m D := ⟨a.mem.fr hf h1 h2, a.ok, a.lim, a.sz, a.arm⟩
theorem DkM.fr0 (a : DkM w d m D) (hf : Fr No w w') : DkM w' d m D := a.fr hf (fun h => h) fun h => h
end
theorem asc_len {N : Nat} : ∀ (l : List Fi) (a : Nat), l.Pairwise (fun a b => a.num < b.num) → (∀ g ∈ l, a < g.num ∧ g.num < N) → a < N → l.length + a < N
  | [], a, _, _, h => by simpa using h
  | g :: l, a, h1, h2, _ => by
    obtain ⟨h3, h4⟩ := List.pairwise_cons.1 h1
    obtain ⟨h5, h6⟩ := h2 g (List.mem_cons_self ..)
    have := asc_len l g.num h4 (fun x hx => ⟨h3 x hx, (h2 x (List.mem_cons_of_mem _ hx)).2⟩) h6
    rw [List.length_cons]
    omega
theorem FsOk.len {l : List Fi} (h : FsOk l) : l.length ≤ 10000000000 := by
  have := asc_len l 0 h.asc (fun g hg => ⟨(h.rg g hg).1, (h.rg g hg).2⟩) (by decide)
  omega
theorem actA_act (D : Dk) : actA (D.armed : Int) = (D.act.armed : Int) := by
  unfold actA Dk.act
  by_cases h : 0 < D.armed
  · rw [if_pos h, if_pos (by omega)]
    dsimp only
    omega
  · rw [if_neg h, if_neg (by omega)]
theorem actD_act (D : Dk) : actD (D.armed : Int) D.dead = D.act.dead := by
  unfold actD Dk.act
  by_cases h : 0 < D.armed
  · rw [if_pos h, if_pos (by omega)]
    dsimp only
    by_cases h1 : D.armed = 1
    · rw [h1]; rfl
    · have e1 : ((D.armed : Int) - 1 == 0) = false := by simp; omega
      have e2 : (D.armed == 1) = false := by simpa using h1
      rw [e1, e2]
  · rw [if_neg h, if_neg (by omega)]
theorem actE_act (D : Dk) : actE (D.armed : Int) D.dead = if D.act.dead = true then 20 else 0 := by
  unfold actE
  rw [actD_act]
theorem thereE_get (D : Dk) (n : Nat) : thereE (fOf D.fs) D.dead (segB n) = if D.dead = true then 20 else if (getF D.fs n).isSome = true then 0 else 21 := by
  unfold thereE
  rw [fOf_at, Option.isSome_map]
theorem dataD_get {l : List Fi} {n : Nat} {g : Fi} (h : getF l n = some g) : dataD (fOf l) (segB n) = toB g.data := by
  unfold dataD
  rw [fOf_at, h]
  rfl
theorem synD_get {l : List Fi} {n : Nat} {g : Fi} (h : getF l n = some g) : synD (fOf l) (segB n) = (g.syn : Int) := by
  unfold synD
  rw [fOf_at, h]
  rfl
theorem sizeF_get : ∀ {l : List Fi} {n : Nat} {g : Fi}, getF l n = some g → g.data.length ≤ sizeF l
  | [], _, _, h => by cases h
  | a :: l, n, g, h => by
    have e : sizeF (a :: l) = a.data.length + sizeF l := rfl
    unfold getF at h
    rw [List.find?_cons] at h
    split at h
    · cases h; omega
    · have := sizeF_get (l := l) h
      omega
theorem sizeF_putF (l : List Fi) (f : Fi) : sizeF (putF l f) ≤ sizeF l + f.data.length := by
  induction l with
  | nil => simp [putF, sizeF]
  | cons g l ih =>
    have e : sizeF (g :: l) = g.data.length + sizeF l := rfl
    unfold putF
    split
    · have e2 : sizeF (g :: putF l f) = g.data.length + sizeF (putF l f) := rfl
      omega
    · split
      · have e2 : sizeF (f :: l) = f.data.length + sizeF l := rfl
        omega
      · have e2 : sizeF (f :: g :: l) = f.data.length + sizeF (g :: l) := rfl
        omega
/-- A file's bytes laid anew: the sum. -/
theorem sizeF_put_get : ∀ {l : List Fi} (f : Fi) {g : Fi}, l.Pairwise (fun a b => a.num < b.num) → getF l f.num = some g → sizeF (putF l f) + g.data.length = sizeF l + f.data.length
  | [], _, _, _, h => by cases h
  | a :: l, f, g, ha, h => by
    obtain ⟨h1, h2⟩ := List.pairwise_cons.1 ha
    have e : sizeF (a :: l) = a.data.length + sizeF l := rfl
    have hh := h
    unfold getF at h
    rw [List.find?_cons] at h
    unfold putF
    split at h
    · rename_i he
      have he : a.num = f.num := by simpa using he
      cases h
      rw [if_neg (by omega), if_pos he]
      have e2 : sizeF (f :: l) = f.data.length + sizeF l := rfl
      omega
    · rename_i he
      have he : ¬ a.num = f.num := by simpa using he
      have hg := getF_num (l := l) h
      have := h1 g hg.2
      have hgn := hg.1
      rw [if_pos (by omega)]
      have e2 : sizeF (a :: putF l f) = a.data.length + sizeF (putF l f) := rfl
      have := sizeF_put_get (l := l) f h2 h
      omega
theorem sizeF_put_new : ∀ {l : List Fi} (f : Fi), getF l f.num = none → sizeF (putF l f) = sizeF l + f.data.length
  | [], f, _ => by simp [putF, sizeF]
  | a :: l, f, h => by
    have e : sizeF (a :: l) = a.data.length + sizeF l := rfl
    unfold getF at h
    rw [List.find?_cons] at h
    split at h
    · cases h
    · rename_i he
      have he : ¬ a.num = f.num := by simpa using he
      unfold putF
      split
      · have e2 : sizeF (a :: putF l f) = a.data.length + sizeF (putF l f) := rfl
        have := sizeF_put_new (l := l) f h
        omega
      · have e2 : sizeF (f :: a :: l) = f.data.length + sizeF (a :: l) := rfl
        omega
theorem sizeF_del (l : List Fi) (n : Nat) : sizeF (delF l n) ≤ sizeF l := by
  induction l with
  | nil => exact Nat.le_refl _
  | cons g l ih =>
    have e : sizeF (g :: l) = g.data.length + sizeF l := rfl
    unfold delF at ih ⊢
    rw [List.filter_cons]
    split
    · have e2 : sizeF (g :: l.filter fun f => decide (f.num ≠ n)) = g.data.length + sizeF (l.filter fun f => decide (f.num ≠ n)) := rfl
      omega
    · omega
theorem act_sets (D : Dk) : D.act.fs = D.fs ∧ D.act.lim = D.lim := act_fs D
theorem act_le (D : Dk) : D.act.armed ≤ D.armed := (act_armed D).1
abbrev DM (d m : Nat) : Nat → Prop := fun b => b = d ∨ b = m
section
variable {w : World} {d m : Nat} {D : Dk}
theorem DkM.lives (a : DkM w d m D) : Calls Tryz.prog 33 #[.pointer (some ⟨d, 0, none⟩)] w fun e w' => e = .returned (.int .i64 (if D.dead = true then 20 else 0)) ∧ w = w' := dlives_calls a.mem
theorem DkM.read (a : DkM w d m D) (n : Nat) (hn : n < 10000000000) {g : Fi} (hg : getF D.fs n = some g) (hd : D.dead = false) :
    Calls Tryz.prog 22 #[.pointer (some ⟨d, 0, none⟩), .string (segB n)] w fun e w' => e = .returned (.tuple #[.string (toB g.data), .int .i64 0]) ∧ Fr No w w' := by
  refine (dread_calls a.mem (segB n) (by rw [segB_size hn]; decide)).mono ?_
  rintro e w' ⟨rfl, hf⟩
  rw [thereE_get, hg, hd, dataD_get hg]
  exact ⟨rfl, hf⟩
theorem seg_pre (k : Nat) : (⟨#[119, 97, 108, 45]⟩ : ByteArray) ≠ segB k := fun e => by
  have h := congrArg (fun b => (txt b).length) e
  simp only [txt_segB] at h
  unfold segL at h
  rw [List.length_append] at h
  have h4 : (txt ⟨#[119, 97, 108, 45]⟩).length = 4 := rfl
  rw [h4] at h
  have h5 : ([119, 97, 108, 45] : List UInt8).length = 4 := rfl
  rw [h5] at h
  by_cases hk : k < 10000000000
  · rw [if_pos hk, digs_length] at h
    omega
  · rw [if_neg hk, List.length_replicate] at h
    omega
/-- What is read at the name of no segment: nothing; is the disk dead? -/
theorem DkM.pre (a : DkM w d m D) : Calls Tryz.prog 22 #[.pointer (some ⟨d, 0, none⟩), .string ⟨#[119, 97, 108, 45]⟩] w fun e w' => e = .returned (.tuple #[.string ByteArray.empty, .int .i64 (if D.dead = true then 20 else 21)]) ∧ Fr No w w' := by
  refine (dread_calls a.mem _ (by decide)).mono ?_
  rintro e w' ⟨rfl, hf⟩
  have h1 : thereE (fOf D.fs) D.dead ⟨#[119, 97, 108, 45]⟩ = if D.dead = true then 20 else 21 := by
    unfold thereE
    rw [fOf_other seg_pre]
    simp
  rw [h1]
  refine ⟨?_, hf⟩
  cases D.dead <;> simp
theorem DkM.remove (a : DkM w d m D) (n : Nat) (hn : n < 10000000000) :
    Calls Tryz.prog 38 #[.pointer (some ⟨d, 0, none⟩), .string (segB n)] w fun e w' => e = .returned (.int .i64 (D.remove RR n).2) ∧ DkM w' d m (D.remove RR n).1 ∧ Fr (DM d m) w w' := by
  refine (dremove_calls a.mem (by have := a.arm; omega) (segB n) (by rw [segB_size hn]; decide)).mono ?_
  rintro e w' ⟨rfl, ha, hf⟩
  obtain ⟨s1, s2⟩ := act_sets D
  have s3 := act_le D
  have hdel := sizeF_del D.fs n
  have hsz := a.sz
  have harm := a.arm
  rw [actE_act, actA_act, actD_act, thereE_get, ← fOf_del] at ha
  rw [actE_act, thereE_get]
  unfold Dk.remove
  by_cases h1 : D.dead = true
  · rw [if_pos h1]
    simp only [h1, if_true, RR] at ha ⊢
    refine ⟨rfl, ⟨?_, a.ok, a.lim, a.sz, a.arm⟩, hf⟩
    simpa [h1] using ha
  · rw [if_neg h1]
    cases hg : getF D.fs n with
    | none =>
      simp only [hg, h1, if_false, Bool.false_eq_true] at ha ⊢
      refine ⟨rfl, ⟨?_, a.ok, a.lim, a.sz, a.arm⟩, hf⟩
      simpa [h1] using ha
    | some g =>
      by_cases h2 : D.act.dead = true
      · simp only [hg, h1, h2, if_true, if_false, Bool.false_eq_true] at ha ⊢
        refine ⟨rfl, ⟨?_, by rw [s1]; exact a.ok, by rw [s2]; exact a.lim, by rw [s1, s2]; exact a.sz, by omega⟩, hf⟩
        rw [s1, s2]
        simpa [h1, h2] using ha
      · simp only [hg, h1, h2, if_false, Bool.false_eq_true] at ha ⊢
        refine ⟨rfl, ⟨?_, ?_, ?_, ?_, ?_⟩, hf⟩
        · try dsimp only
          rw [s1, s2]
          simpa [h1, h2] using ha
        · try dsimp only
          rw [s1]; exact a.ok.del n
        · try dsimp only
          rw [s2]; exact a.lim
        · try dsimp only
          rw [s1, s2]; omega
        · try dsimp only
          omega
theorem DkM.sync (a : DkM w d m D) (n : Nat) (hn : n < 10000000000) :
    Calls Tryz.prog 37 #[.pointer (some ⟨d, 0, none⟩), .string (segB n)] w fun e w' => e = .returned (.int .i64 (D.sync RR n).2) ∧ DkM w' d m (D.sync RR n).1 ∧ Fr (DM d m) w w' := by
  refine (dsync_calls a.mem (by have := a.arm; omega) (segB n) (by rw [segB_size hn]; decide)).mono ?_
  rintro e w' ⟨rfl, ha, hf⟩
  obtain ⟨s1, s2⟩ := act_sets D
  have s3 := act_le D
  have hsz := a.sz
  have harm := a.arm
  rw [actE_act, actA_act, actD_act, thereE_get] at ha
  rw [actE_act, thereE_get]
  unfold Dk.sync
  by_cases h1 : D.dead = true
  · rw [if_pos h1]
    simp only [h1, if_true, RR] at ha ⊢
    refine ⟨rfl, ⟨?_, a.ok, a.lim, a.sz, a.arm⟩, hf⟩
    simpa [h1] using ha
  · rw [if_neg h1]
    cases hg : getF D.fs n with
    | none =>
      simp only [hg, h1, if_false, Bool.false_eq_true] at ha ⊢
      refine ⟨rfl, ⟨?_, a.ok, a.lim, a.sz, a.arm⟩, hf⟩
      simpa [h1] using ha
    | some g =>
      by_cases h2 : D.act.dead = true
      · simp only [hg, h1, h2, if_true, if_false, Bool.false_eq_true] at ha ⊢
        refine ⟨rfl, ⟨?_, by rw [s1]; exact a.ok, by rw [s2]; exact a.lim, by rw [s1, s2]; exact a.sz, by omega⟩, hf⟩
        rw [s1, s2]
        simpa [h1, h2] using ha
      · have hp := fOf_put D.fs ⟨n, g.data, g.data.length⟩
        dsimp only at hp
        rw [dataD_get hg, toB_size, ← hp] at ha
        have hgn := getF_num hg
        have hps := sizeF_put_get (l := D.fs) ⟨n, g.data, g.data.length⟩ a.ok.asc hg
        dsimp only at hps
        simp only [hg, h1, h2, if_false, Bool.false_eq_true] at ha ⊢
        refine ⟨rfl, ⟨?_, ?_, ?_, ?_, ?_⟩, hf⟩
        · try dsimp only
          rw [s1, s2]
          simpa [h1, h2] using ha
        · try dsimp only
          rw [s1]; exact a.ok.put (by have := a.ok.rg g hgn.2; rw [hgn.1] at this; exact this) (Nat.le_refl _)
        · try dsimp only
          rw [s2]; exact a.lim
        · try dsimp only
          rw [s1, s2]; omega
        · try dsimp only
          omega
theorem toB_take (l : List UInt8) (k : Nat) : (toB l).extract 0 k = toB (l.take k) := by
  apply txt_inj
  rw [txt_toB]
  simp [txt, toB]
theorem DkM.truncate (a : DkM w d m D) (n : Nat) (hn : n < 10000000000) (k : Nat) (hk : ∀ g, getF D.fs n = some g → k ≤ g.data.length) :
    Calls Tryz.prog 32 #[.pointer (some ⟨d, 0, none⟩), .string (segB n), .int .i64 k] w fun e w' => e = .returned (.int .i64 (D.truncate RR n k).2) ∧ DkM w' d m (D.truncate RR n k).1 ∧ Fr (DM d m) w w' := by
  refine (dtruncate_calls a.mem (by have := a.arm; omega) (segB n) (by rw [segB_size hn]; decide) k).mono ?_
  rintro e w' ⟨rfl, ha, hf⟩
  obtain ⟨s1, s2⟩ := act_sets D
  have s3 := act_le D
  have hsz := a.sz
  have harm := a.arm
  unfold truE at ha ⊢
  rw [actE_act, actA_act, actD_act, thereE_get] at ha
  rw [actE_act, thereE_get]
  unfold Dk.truncate
  by_cases h1 : D.dead = true
  · rw [if_pos h1]
    simp only [h1, if_true, RR] at ha ⊢
    refine ⟨rfl, ⟨?_, a.ok, a.lim, a.sz, a.arm⟩, hf⟩
    simpa [h1] using ha
  · rw [if_neg h1]
    cases hg : getF D.fs n with
    | none =>
      simp only [hg, h1, if_false, Bool.false_eq_true] at ha ⊢
      refine ⟨rfl, ⟨?_, a.ok, a.lim, a.sz, a.arm⟩, hf⟩
      simpa [h1] using ha
    | some g =>
      have hkg := hk g hg
      have hor : ¬ ((k : Int) < 0 ∨ ((toB g.data).size : Int) < k) := by rw [toB_size]; omega
      rw [dataD_get hg, synD_get hg, toB_take] at ha
      rw [dataD_get hg]
      simp only [hor, if_false, not_false_eq_true, and_true] at ha ⊢
      by_cases h2 : D.act.dead = true
      · simp only [hg, h1, h2, if_true, if_false, Bool.false_eq_true] at ha ⊢
        refine ⟨rfl, ⟨?_, by rw [s1]; exact a.ok, by rw [s2]; exact a.lim, by rw [s1, s2]; exact a.sz, by omega⟩, hf⟩
        rw [s1, s2]
        simpa [h1, h2] using ha
      · have hp := fOf_put D.fs ⟨n, g.data.take k, min g.syn k⟩
        dsimp only at hp
        have hmn : ((min g.syn k : Nat) : Int) = min (g.syn : Int) k := by omega
        rw [hmn] at hp
        rw [← hp] at ha
        have hgn := getF_num hg
        have hps := sizeF_put_get (l := D.fs) ⟨n, g.data.take k, min g.syn k⟩ a.ok.asc hg
        dsimp only at hps
        rw [List.length_take] at hps
        simp only [hg, h1, h2, if_false, Bool.false_eq_true] at ha ⊢
        refine ⟨rfl, ⟨?_, ?_, ?_, ?_, ?_⟩, hf⟩
        · try dsimp only
          rw [s1, s2]
          simpa [h1, h2] using ha
        · try dsimp only
          rw [s1]; exact a.ok.put (by have := a.ok.rg g hgn.2; rw [hgn.1] at this; exact this) (by dsimp only; rw [List.length_take]; omega)
        · try dsimp only
          rw [s2]; exact a.lim
        · try dsimp only
          rw [s1, s2]; omega
        · try dsimp only
          omega
theorem toB_append (a b : List UInt8) : toB a ++ toB b = toB (a ++ b) := by
  apply txt_inj
  simp [txt, toB]
theorem segB_ne (n : Nat) : (segB n).toList.isEmpty = false := by
  have h : (segB n).toList = segL n := by rw [Lib.toList_data]; exact txt_segB n
  rw [h]
  rfl
theorem DkM.append (a : DkM w d m D) (n : Nat) (hn : 1 ≤ n ∧ n < 10000000000) (x : List UInt8) (hx : x.length ≤ 1073741824) :
    Calls Tryz.prog 28 #[.pointer (some ⟨d, 0, none⟩), .string (segB n), .string (toB x)] w fun e w' => e = .returned (.int .i64 (D.append RR n x).2) ∧ DkM w' d m (D.append RR n x).1 ∧ Fr (DM d m) w w' := by
  have hsz := a.sz
  have harm := a.arm
  have hlim := a.lim
  have hdl : (dataD (fOf D.fs) (segB n)).size ≤ 1073741824 := by
    cases hg : getF D.fs n with
    | none =>
      unfold dataD
      rw [fOf_at, hg]
      show (0 : Nat) ≤ _
      omega
    | some g =>
      rw [dataD_get hg, toB_size]
      have := sizeF_get hg
      omega
  refine (dappend_calls a.mem (by omega) (a.ok.sum (by have := a.ok.len; omega)) (by omega) (by omega) (segB n) (toB x) (by rw [segB_size hn.2]; decide) (segB_ne n) (by rw [toB_size]; exact hx) hdl).mono ?_
  rintro e w' ⟨rfl, ha, hf⟩
  rw [toB_size] at ha ⊢
  unfold appE
  rw [actE_act]
  rw [actA_act, actD_act] at ha
  unfold Dk.append
  by_cases h1 : D.dead = true
  · rw [if_pos h1]
    rw [if_pos h1]
    refine ⟨rfl, ⟨?_, a.ok, a.lim, a.sz, a.arm⟩, hf⟩
    simpa [h1] using ha
  · rw [if_neg h1]
    have hd : D.dead = false := by simpa using h1
    by_cases h2 : D.lim - sizeF D.fs < x.length
    · have h2' : (D.lim : Int) - (sizeF D.fs : Nat) < x.length := by omega
      rw [if_pos h2]
      simp only [h1, h2', if_true, if_false, or_true, Bool.false_eq_true] at ha ⊢
      exact ⟨rfl, ⟨by rw [hd]; exact ha, a.ok, a.lim, a.sz, a.arm⟩, hf⟩
    · have h2' : ¬ (D.lim : Int) - (sizeF D.fs : Nat) < x.length := by omega
      rw [if_neg h2]
      simp only [h1, h2', if_false, or_false, Bool.false_eq_true] at ha ⊢
      have hp := fOf_put D.fs ⟨n, ((getF D.fs n).getD ⟨n, [], 0⟩).data ++ x, ((getF D.fs n).getD ⟨n, [], 0⟩).syn⟩
      dsimp only at hp
      have hdat : dataD (fOf D.fs) (segB n) ++ toB x = toB (((getF D.fs n).getD ⟨n, [], 0⟩).data ++ x) := by
        rw [← toB_append]
        congr 1
        unfold dataD
        rw [fOf_at]
        cases getF D.fs n <;> rfl
      have hsyn : synD (fOf D.fs) (segB n) = (((getF D.fs n).getD ⟨n, [], 0⟩).syn : Int) := by
        unfold synD
        rw [fOf_at]
        cases getF D.fs n <;> rfl
      rw [hdat, hsyn, ← hp] at ha
      have hpz : sizeF (putF D.fs ⟨n, ((getF D.fs n).getD ⟨n, [], 0⟩).data ++ x, ((getF D.fs n).getD ⟨n, [], 0⟩).syn⟩) = sizeF D.fs + x.length := by
        cases hg : getF D.fs n with
        | none => exact sizeF_put_new ⟨n, [] ++ x, 0⟩ hg
        | some g =>
          have := sizeF_put_get (l := D.fs) ⟨n, g.data ++ x, g.syn⟩ a.ok.asc hg
          dsimp only at this
          rw [List.length_append] at this
          show sizeF (putF D.fs ⟨n, g.data ++ x, g.syn⟩) = _
          omega
      have hok : FsOk (putF D.fs ⟨n, ((getF D.fs n).getD ⟨n, [], 0⟩).data ++ x, ((getF D.fs n).getD ⟨n, [], 0⟩).syn⟩) := a.ok.put hn (by
        dsimp only
        rw [List.length_append]
        cases hg : getF D.fs n with
        | none => exact Nat.zero_le _
        | some g =>
          have := a.ok.syn g (getF_num hg).2
          show g.syn ≤ g.data.length + _
          omega)
      generalize putF D.fs ⟨n, ((getF D.fs n).getD ⟨n, [], 0⟩).data ++ x, ((getF D.fs n).getD ⟨n, [], 0⟩).syn⟩ = F at *
      have q : D.act.armed = (Dk.mk F D.lim D.armed false).act.armed ∧ D.act.dead = (Dk.mk F D.lim D.armed false).act.dead := by
        unfold Dk.act
        dsimp only
        split
        · exact ⟨rfl, rfl⟩
        · exact ⟨rfl, hd⟩
      obtain ⟨s1, s2⟩ := act_sets (Dk.mk F D.lim D.armed false)
      have s3 := act_le (Dk.mk F D.lim D.armed false)
      rw [q.1, q.2] at ha
      rw [q.2]
      dsimp only at s1 s2 s3
      refine ⟨rfl, ⟨?_, by rw [s1]; exact hok, by rw [s2]; exact a.lim, by rw [s1, s2]; omega, by omega⟩, hf⟩
      rw [s1, s2]
      exact ha
theorem DkM.used (a : DkM w d m D) (hd : D.dead = false) : Calls Tryz.prog 12 #[.pointer (some ⟨d, 0, none⟩)] w fun e w' => e = .returned (.int .i64 (sizeF D.fs : Nat)) ∧ Fr No w w' := by
  have hm := a.mem
  rw [hd] at hm
  exact dused_calls hm (a.ok.sum (by have := a.ok.len; omega)) (by have := a.sz; have := a.lim; omega)
theorem DkM.names (a : DkM w d m D) (hd : D.dead = false) : Calls Tryz.prog 13 #[.pointer (some ⟨d, 0, none⟩)] w fun e w' => ∃ v, e = .returned v ∧ SlF w' 9 1 strB v (D.fs.map fun g => segB g.num) ∧ Fr No w w' ∧ ∀ b, v.ownBlock = some b → w.heap.size ≤ b := by
  have hm := a.mem
  rw [hd] at hm
  exact dnames_calls hm (a.ok.names (by have := a.ok.len; omega))
theorem DkM.arms (a : DkM w d m D) (hd : D.dead = false) (k : Nat) (hk : k ≤ 9223372036854775807) : Calls Tryz.prog 19 #[.pointer (some ⟨d, 0, none⟩), .int .i64 k] w fun e w' => e = .returned (.int .i64 0) ∧ DkM w' d m ⟨D.fs, D.lim, k, false⟩ ∧ Fr (DM d m) w w' := by
  have hm := a.mem
  rw [hd] at hm
  refine (darm_calls hm k (by omega)).mono ?_
  rintro e w' ⟨rfl, h1, h2⟩
  exact ⟨rfl, ⟨h1, a.ok, a.lim, a.sz, hk⟩, h2.mono fun _ _ h => .inl h⟩
end
theorem DkM.new (w : World) (lim : Nat) (h1 : 1 ≤ lim) (h2 : lim ≤ 1073741824) : Calls Tryz.prog 8 #[.int .i64 lim] w fun e w' => ∃ d m, e = .returned (.tuple #[.pointer (some ⟨d, 0, none⟩), .int .i64 0]) ∧ DkM w' d m ⟨[], lim, 0, false⟩ ∧ Fr No w w' ∧ w.heap.size ≤ d ∧ w.heap.size ≤ m := by
  refine (dnew_calls w lim (by omega) (by omega)).mono ?_
  rintro e w' ⟨d, rfl, m, h3, h4, h5, h6⟩
  refine ⟨d, m, rfl, ⟨?_, FsOk.nil, h2, Nat.zero_le _, Nat.zero_le _⟩, h4, h5, h6⟩
  rw [fOf_nil]
  exact h3
end Go.Proofs.YtillejdjghlicaaGreatDoor
