/- The law's kind and do: a call of the table does what the document's does. The condition: numbers of int's range, at most 1000 calls. -/
import Derived.Test.YtlomeohcgjgpjaaOver
import Derived.Test.YtlomeohcgjgpjaaLib4
namespace Go.Proofs.Ytlomeohcgjgpjaa
open Go Go.Proofs Go.RowKit
set_option maxRecDepth 100000

def opC (o : LOp) : List Value := [.int .i64 o.kind, .int .i64 o.id, .int .i64 o.n, .string o.key]
theorem opC_length (o : LOp) : (opC o).length = 4 := rfl
def opV (o : LOp) : Value := .agg #[.int .i64 o.kind, .int .i64 o.id, .int .i64 o.n, .string o.key]
/-- An op as an argument bears it. -/
def OpW (o : LOp) : Prop := (Lit.int .i64 o.kind).wf = true ∧ (Lit.int .i64 o.id).wf = true ∧ (Lit.int .i64 o.n).wf = true ∧ o.key.size ≤ maxLen
theorem wf_bounds {a : Int} (h : (Lit.int .i64 a).wf = true) : -9223372036854775808 ≤ a ∧ a ≤ 9223372036854775807 := by
  simp [Lit.wf, IntKind.min, IntKind.max, IntKind.signed, IntKind.bits] at h
  omega
theorem OpW.in_ {o : LOp} (h : OpW o) : OpIn o := ⟨(wf_bounds h.2.1).2, h.2.2.2⟩
theorem tmod_b (k : Int) : k.tmod 8 = if 0 ≤ k then k % 8 else -((-k) % 8) := by
  split
  · exact Int.tmod_eq_emod_of_nonneg (by omega)
  · rw [← Int.tmod_eq_emod_of_nonneg (a := -k) (by omega), Int.neg_tmod, Int.neg_neg]
theorem tmod8 (k : Int) : (k.tmod 8 + 8).tmod 8 = k % 8 := by
  have h := tmod_b k
  have h2 : 0 ≤ k.tmod 8 + 8 := by rw [h]; split <;> omega
  rw [Int.tmod_eq_emod_of_nonneg h2, h]
  split <;> omega
theorem wrap8 (k : Int) : wrap64 (k.tmod 8 + 8) = k.tmod 8 + 8 := by
  have h := tmod_b k
  have h2 : 0 ≤ k.tmod 8 + 8 ∧ k.tmod 8 + 8 ≤ 16 := by rw [h]; split <;> omega
  unfold wrap64
  omega
set_option maxHeartbeats 1000000 in
theorem kind_calls (w : World) (o : LOp) (c : Int) (hc : o.kind % 8 = c) : Calls Try.prog 28 #[opV o] w fun e w' => e = .returned (.int .i64 c) ∧ Fr No w w' := by
  obtain ⟨k, i, n, s⟩ := o
  dsimp only at hc
  unfold opV
  have hf : Fr No w (w.alloc (.cells #[.int .i64 k, .int .i64 i, .int .i64 n, .string s] 24)) := (Fr.refl No w).alloc _
  have hw := wrap8 k
  have he := tmod8 k
  have HE := Lib.hid he
  have HC := Lib.hid hc
  clear hc he
  go_enter Try.func28, Try.ntmps28
  go_wp2
  go_ret
  exact ⟨by rw [← HC.out, ← HE.out]; rfl, hf⟩
/-- Behind a call of the table as the law does it. -/
def DoTo (n : Nat) (w w' : World) (t : Nat) (F : Nat → Prop) (R : List LV) (o : LOp) (e : Ending) : Prop :=
  ∃ kv mv F', e = .returned (.tuple #[.int .i64 (stepR R o).1.e, .int .i64 (stepR R o).1.n, kv, mv]) ∧ Lea (n + 1) w' t (stepR R o).2 F' ∧ Fr F w w' ∧ (∀ b, F' b → F b ∨ w.heap.size ≤ b) ∧
    SlF w' 9 1 strC kv (stepR R o).1.keys ∧ (∀ b, kv.ownBlock = some b → ¬ F' b ∧ (F b ∨ w.heap.size ≤ b)) ∧ SlF w' 3 1 int1 mv (stepR R o).1.told ∧ ∀ b, mv.ownBlock = some b → ¬ F' b ∧ w.heap.size ≤ b
theorem do_of {n : Nat} {w W w' : World} {t : Nat} {F : Nat → Prop} {R : List LV} {o : LOp} {e m : Int} (hW : Fr No w W) (h : LeaTo (n + 1) W w' t F (stepR R o).2) (he : (stepR R o).1 = ⟨e, m, [], []⟩) :
    DoTo n w w' t F R o (.returned (.tuple #[.int .i64 e, .int .i64 m, .slice none 0 0, .slice none 0 0])) := by
  obtain ⟨F', h1, h2, h3⟩ := h
  have hs := hW.size
  refine ⟨_, _, F', by rw [he], h1, (hW.mono fun _ _ s => s.elim).trans h2 fun _ _ h => h, fun b hb => (h3 b hb).imp (fun h => h) fun h => by omega, by rw [he]; exact SlF.nil _ _ _ _, by simp [Value.ownBlock], by rw [he]; exact SlF.nil _ _ _ _, by simp [Value.ownBlock]⟩
theorem results_l4 {fn : Func} (h : fn.results = #[.tmp 4, .tmp 5, .tmp 6, .tmp 7]) (tmps : Array Value) (P : Program) (w : World) : (results fn tmps).run P w = .ok (.tuple #[tmps.getD 4 undef, tmps.getD 5 undef, tmps.getD 6 undef, tmps.getD 7 undef]) w := results_tmp4 h tmps P w
set_option maxHeartbeats 4000000 in
theorem do_grant {n : Nat} (hn : n ≤ 999) {w : World} {t : Nat} {R : List LV} {F : Nat → Prop} (h : Lea n w t R F) (o : LOp) (ho : OpW o) (hk : o.kind % 8 = 0) :
    Calls Try.prog 12 #[.pointer (some ⟨t, 0, none⟩), opV o] w fun e w' => DoTo n w w' t F R o e := by
  have hop := fun W (hW : Fr No w W) => Grant_calls (by omega) (h.fr0 hW) o.id o.n ho.2.1 (ho.in_).1
  have hst : stepR R o = (⟨grantE R o.id o.n, 0, [], []⟩, if grantE R o.id o.n = 0 then grantR R o.id o.n else R) := by unfold stepR; rw [if_pos hk]
  have hkc := fun W => kind_calls W o 0 hk
  have HOP := Lib.hid hop
  have HST := Lib.hid hst
  have HKC := Lib.hid hkc
  clear hop hst hkc h ho hk
  unfold opV at HKC ⊢
  go_enter Try.func12, Try.ntmps12
  have hfb : Fr No w (w.alloc (.cells #[.int .i64 o.kind, .int .i64 o.id, .int .i64 o.n, .string o.key] 24)) := (Fr.refl No w).alloc _
  have hbb := alloc_at w (.cells #[.int .i64 o.kind, .int .i64 o.id, .int .i64 o.n, .string o.key] 24) w.heap.size rfl
  have HFB := Lib.hid hfb
  have HBB := Lib.hid hbb
  clear hfb hbb
  go_wp2_with (first
    | (go_at_call 28; (with_reducible refine (HKC.out _).mono ?_); rintro e w1 ⟨rfl, hf1⟩
       have hb1 := hf1.heap HBB.out fun h => h
       obtain ⟨x0, x1, x2, x3⟩ := cells4 hb1
       have lb1 := heap_lt hb1
       have HF1 := Lib.hid (HFB.out.trans0 hf1)
       clear hf1 hb1)
    | (go_at_call 32; (with_reducible refine (HOP.out _ HF1.out).mono ?_); rintro e w2 ⟨rfl, h2⟩; have H2 := Lib.hid h2; clear h2))
  refine bodyPost_ret (results_tmp4 rfl _ _ _) rfl ?_
  exact do_of HF1.out (by rw [HST.out]; exact H2.out) (by rw [HST.out])
/-- What Revoke answers, without its cases. -/
def revV (x : Option LV) (kv : Value) : Value := match x with
  | some _ => .tuple #[kv, .int .i64 0]
  | none => .tuple #[.slice none 0 0, .int .i64 35]
theorem Revoke_at {n : Nat} (hn : n ≤ 1000) {w : World} {t : Nat} {R : List LV} {F : Nat → Prop} (h : Lea n w t R F) (id : Int) (hwf : (Lit.int .i64 id).wf = true) :
    Calls Try.prog 17 #[.pointer (some ⟨t, 0, none⟩), .int .i64 id] w fun e w' => ∃ (a : Option Addr) (k c : Nat) (er : Int), e = .returned (.tuple #[.slice a k c, .int .i64 er]) ∧ Hid (e = .returned (.tuple #[.slice a k c, .int .i64 er]) ∧ RevTo n w w' t F R id e) := by
  refine (Revoke_calls hn h id hwf).mono fun e w' hr => ?_
  have hr' := hr
  unfold RevTo at hr
  split at hr
  · obtain ⟨kv, F', he, hs, _⟩ := hr
    obtain ⟨a, c, rfl, _⟩ := hs.shape
    exact ⟨a, _, c, 0, he, Lib.hid ⟨he, hr'⟩⟩
  · exact ⟨none, 0, 0, 35, hr.1, Lib.hid ⟨hr.1, hr'⟩⟩
set_option maxHeartbeats 4000000 in
theorem do_revoke {n : Nat} (hn : n ≤ 999) {w : World} {t : Nat} {R : List LV} {F : Nat → Prop} (h : Lea n w t R F) (o : LOp) (ho : OpW o) (hk : o.kind % 8 = 1) :
    Calls Try.prog 12 #[.pointer (some ⟨t, 0, none⟩), opV o] w fun e w' => DoTo n w w' t F R o e := by
  have hop := fun W (hW : Fr No w W) => Revoke_at (by omega) (h.fr0 hW) o.id ho.2.1
  have hst : stepR R o = match getR R o.id with
    | none => (⟨35, 0, [], []⟩, R)
    | some x => (⟨0, 0, x.keys, []⟩, revokeR R o.id) := by unfold stepR; rw [if_neg (by omega), if_pos hk]; cases getR R o.id <;> rfl
  have hkc := fun W => kind_calls W o 1 hk
  have HL := Lib.hid h
  have HOP := Lib.hid hop
  have HST := Lib.hid hst
  have HKC := Lib.hid hkc
  clear hop hst hkc h ho hk
  unfold opV at HKC ⊢
  go_enter Try.func12, Try.ntmps12
  have hfb : Fr No w (w.alloc (.cells #[.int .i64 o.kind, .int .i64 o.id, .int .i64 o.n, .string o.key] 24)) := (Fr.refl No w).alloc _
  have hbb := alloc_at w (.cells #[.int .i64 o.kind, .int .i64 o.id, .int .i64 o.n, .string o.key] 24) w.heap.size rfl
  have HFB := Lib.hid hfb
  have HBB := Lib.hid hbb
  clear hfb hbb
  go_wp2_with (first
    | (go_at_call 28; (with_reducible refine (HKC.out _).mono ?_); rintro e w1 ⟨rfl, hf1⟩
       have hb1 := hf1.heap HBB.out fun h => h
       obtain ⟨x0, x1, x2, x3⟩ := cells4 hb1
       have lb1 := heap_lt hb1
       have HF1 := Lib.hid (HFB.out.trans0 hf1)
       clear hf1 hb1)
    | (go_at_call 17; (with_reducible refine (HOP.out _ HF1.out).mono ?_); rintro e w2 ⟨ra, rk, rc, re, rfl, H2⟩))
  refine bodyPost_ret (results_tmp4 rfl _ _ _) rfl ?_
  have h2 := H2.out.2
  unfold RevTo at h2
  have hst := HST.out
  cases hg : getR R o.id with
  | none =>
    rw [hg] at h2 hst
    dsimp only at h2 hst
    obtain ⟨e1, rfl⟩ := h2
    simp only [Ending.returned.injEq, Value.tuple.injEq] at e1
    cases e1
    have hto := HL.out.to (m := n + 1) (Nat.le_succ _) HF1.out
    exact do_of (R := R) (o := o) HF1.out (by rw [hst]; exact (HL.out.fr0 HF1.out).to (Nat.le_succ _) (Fr.refl _ _)) (by rw [hst])
  | some x =>
    rw [hg] at h2 hst
    dsimp only at h2 hst
    obtain ⟨kv, F', e1, g1, g2, g3, g4, g5⟩ := h2
    simp only [Ending.returned.injEq, Value.tuple.injEq] at e1
    cases e1
    exact ⟨_, _, F', by rw [hst]; rfl, by rw [hst]; exact g2.up (Nat.le_succ _), (HF1.out.mono fun _ _ s => s.elim).trans g3 fun _ _ h => h, fun b hb => .inl (g4 b hb), by rw [hst]; exact g1, fun b hb => ⟨(g5 b hb).2, .inl (g5 b hb).1⟩, by rw [hst]; exact SlF.nil _ _ _ _, by simp [Value.ownBlock]⟩
theorem Detach_at {n : Nat} (hn : n ≤ 1000) {w : World} {t : Nat} {R : List LV} {F : Nat → Prop} (h : Lea n w t R F) (key : ByteArray) (hk : key.size ≤ maxLen) :
    Calls Try.prog 35 #[.pointer (some ⟨t, 0, none⟩), .string key] w fun e w' => e = .returned (.int .i64 (ofR R key)) ∧ LeaTo (n + 1) w w' t F (detachR R key) := by
  obtain ⟨T, ⟨m, o, qv, hp, FL, a, hF⟩, hT, rfl⟩ := h
  refine (Detach_calls hn a hT key hk).mono fun e w' ⟨he, FL', T', h1, h2, h3, h4, h5⟩ => ⟨he, _, ⟨T', ⟨m, o, qv, hp, FL', h1, fun _ => Iff.rfl⟩, h2.up (Nat.le_succ _), h3⟩, h4.mono fun b _ h => (hF b).2 h, ?_⟩
  rintro b (h | h | h | h | ⟨i, h⟩)
  · exact .inl ((hF b).2 (.inl h))
  · exact .inl ((hF b).2 (.inr (.inl h)))
  · exact .inl ((hF b).2 (.inr (.inr (.inl h))))
  · exact .inl ((hF b).2 (.inr (.inr (.inr (.inl h)))))
  · exact .inl ((hF b).2 (.inr (.inr (.inr (.inr ⟨i, h5 i b h⟩)))))
theorem Tick_at {n : Nat} (hn : n ≤ 1000) {w : World} {t : Nat} {R : List LV} {F : Nat → Prop} (h : Lea n w t R F) (k : Int) :
    Calls Try.prog 19 #[.pointer (some ⟨t, 0, none⟩), .int .i64 k] w fun e w' => ∃ v, e = .returned v ∧ Hid (True ∧ TickTo (n + 1) w w' t F R k e) := by
  refine (Tick_calls hn h k).mono fun e w' hr => ?_
  have hr' := hr
  obtain ⟨v, he, _⟩ := hr
  exact ⟨v, he, Lib.hid ⟨trivial, hr'⟩⟩
theorem renewV_eq (x : Option LV) : ∃ a e : Int, renewV x = .tuple #[.int .i64 a, .int .i64 e] ∧ (x = none → a = 0 ∧ e = 35) ∧ ∀ y, x = some y → a = y.ticks ∧ e = 0 := by
  cases x with
  | none => exact ⟨0, 35, rfl, fun _ => ⟨rfl, rfl⟩, fun _ h => by cases h⟩
  | some y => exact ⟨y.ticks, 0, rfl, (fun h => by cases h), fun z h => by cases h; exact ⟨rfl, rfl⟩⟩
set_option maxHeartbeats 4000000 in
theorem do_renew {n : Nat} (hn : n ≤ 999) {w : World} {t : Nat} {R : List LV} {F : Nat → Prop} (h : Lea n w t R F) (o : LOp) (ho : OpW o) (hk : o.kind % 8 = 2) :
    Calls Try.prog 12 #[.pointer (some ⟨t, 0, none⟩), opV o] w fun e w' => DoTo n w w' t F R o e := by
  have hop := fun W (hW : Fr No w W) => Renew_calls (by omega) (h.fr0 hW) o.id ho.2.1
  have hst : stepR R o = match getR R o.id with
    | none => (⟨35, 0, [], []⟩, R)
    | some x => (⟨0, x.ticks, [], []⟩, renewR R o.id) := by unfold stepR; rw [if_neg (by omega), if_neg (by omega), if_pos hk]; cases getR R o.id <;> rfl
  have hkc := fun W => kind_calls W o 2 hk
  obtain ⟨ra, re, hrv, hrn, hry⟩ := renewV_eq (getR R o.id)
  have HRV := Lib.hid hrv
  have HN := Lib.hid hrn
  have HY := Lib.hid hry
  clear hrv hrn hry
  have HOP := Lib.hid hop
  have HST := Lib.hid hst
  have HKC := Lib.hid hkc
  clear hop hst hkc h ho hk
  unfold opV at HKC ⊢
  go_enter Try.func12, Try.ntmps12
  have hfb : Fr No w (w.alloc (.cells #[.int .i64 o.kind, .int .i64 o.id, .int .i64 o.n, .string o.key] 24)) := (Fr.refl No w).alloc _
  have hbb := alloc_at w (.cells #[.int .i64 o.kind, .int .i64 o.id, .int .i64 o.n, .string o.key] 24) w.heap.size rfl
  have HFB := Lib.hid hfb
  have HBB := Lib.hid hbb
  clear hfb hbb
  go_wp2_with (first
    | (go_at_call 28; (with_reducible refine (HKC.out _).mono ?_); rintro e w1 ⟨rfl, hf1⟩
       have hb1 := hf1.heap HBB.out fun h => h
       obtain ⟨x0, x1, x2, x3⟩ := cells4 hb1
       have lb1 := heap_lt hb1
       have HF1 := Lib.hid (HFB.out.trans0 hf1)
       clear hf1 hb1)
    | (go_at_call 33; (with_reducible refine (HOP.out _ HF1.out).mono ?_); rintro e w2 ⟨rfl, h2⟩; rw [HRV.out]; have H2 := Lib.hid h2; clear h2))
  refine bodyPost_ret (results_tmp4 rfl _ _ _) rfl ?_
  refine do_of HF1.out ?_ ?_
  · rw [HST.out]
    have h2 := H2.out
    cases hg : getR R o.id with
    | none => rw [hg] at h2; exact h2
    | some x => rw [hg] at h2; exact h2
  · rw [HST.out]
    cases hg : getR R o.id with
    | none => obtain ⟨e1, e2⟩ := HN.out hg; rw [e1, e2]
    | some x => obtain ⟨e1, e2⟩ := HY.out x hg; rw [e1, e2]
set_option maxHeartbeats 4000000 in
theorem do_attach3 {n : Nat} (hn : n ≤ 999) {w : World} {t : Nat} {R : List LV} {F : Nat → Prop} (h : Lea n w t R F) (o : LOp) (ho : OpW o) (hk : o.kind % 8 = 3) :
    Calls Try.prog 12 #[.pointer (some ⟨t, 0, none⟩), opV o] w fun e w' => DoTo n w w' t F R o e := by
  have hop := fun W (hW : Fr No w W) => Attach_calls (by omega) (h.fr0 hW) o.id o.key ho.2.1 ho.2.2.2
  have hst : stepR R o = match getR R o.id with
    | none => (⟨35, 0, [], []⟩, R)
    | some _ => (⟨0, 0, [], []⟩, attachR R o.id o.key) := by unfold stepR; rw [if_neg (by omega), if_neg (by omega), if_neg (by omega), if_pos (by omega)]; cases getR R o.id <;> rfl
  have hkc := fun W => kind_calls W o 3 hk
  have HOP := Lib.hid hop
  have HST := Lib.hid hst
  have HKC := Lib.hid hkc
  clear hop hst hkc h ho hk
  unfold opV at HKC ⊢
  go_enter Try.func12, Try.ntmps12
  have hfb : Fr No w (w.alloc (.cells #[.int .i64 o.kind, .int .i64 o.id, .int .i64 o.n, .string o.key] 24)) := (Fr.refl No w).alloc _
  have hbb := alloc_at w (.cells #[.int .i64 o.kind, .int .i64 o.id, .int .i64 o.n, .string o.key] 24) w.heap.size rfl
  have HFB := Lib.hid hfb
  have HBB := Lib.hid hbb
  clear hfb hbb
  go_wp2_with (first
    | (go_at_call 28; (with_reducible refine (HKC.out _).mono ?_); rintro e w1 ⟨rfl, hf1⟩
       have hb1 := hf1.heap HBB.out fun h => h
       obtain ⟨x0, x1, x2, x3⟩ := cells4 hb1
       have lb1 := heap_lt hb1
       have HF1 := Lib.hid (HFB.out.trans0 hf1)
       clear hf1 hb1)
    | (go_at_call 34; (with_reducible refine (HOP.out _ HF1.out).mono ?_); rintro e w2 ⟨rfl, h2⟩; have H2 := Lib.hid h2; clear h2))
  refine bodyPost_ret (results_tmp4 rfl _ _ _) rfl ?_
  refine do_of HF1.out ?_ ?_
  · rw [HST.out]
    have h2 := H2.out
    cases hg : getR R o.id with
    | none => rw [hg] at h2; exact h2
    | some x => rw [hg] at h2; exact h2
  · rw [HST.out]
    unfold attE
    cases hg : getR R o.id with
    | none => rfl
    | some x => rfl
set_option maxHeartbeats 4000000 in
theorem do_attach4 {n : Nat} (hn : n ≤ 999) {w : World} {t : Nat} {R : List LV} {F : Nat → Prop} (h : Lea n w t R F) (o : LOp) (ho : OpW o) (hk : o.kind % 8 = 4) :
    Calls Try.prog 12 #[.pointer (some ⟨t, 0, none⟩), opV o] w fun e w' => DoTo n w w' t F R o e := by
  have hop := fun W (hW : Fr No w W) => Attach_calls (by omega) (h.fr0 hW) o.id o.key ho.2.1 ho.2.2.2
  have hst : stepR R o = match getR R o.id with
    | none => (⟨35, 0, [], []⟩, R)
    | some _ => (⟨0, 0, [], []⟩, attachR R o.id o.key) := by unfold stepR; rw [if_neg (by omega), if_neg (by omega), if_neg (by omega), if_pos (by omega)]; cases getR R o.id <;> rfl
  have hkc := fun W => kind_calls W o 4 hk
  have HOP := Lib.hid hop
  have HST := Lib.hid hst
  have HKC := Lib.hid hkc
  clear hop hst hkc h ho hk
  unfold opV at HKC ⊢
  go_enter Try.func12, Try.ntmps12
  have hfb : Fr No w (w.alloc (.cells #[.int .i64 o.kind, .int .i64 o.id, .int .i64 o.n, .string o.key] 24)) := (Fr.refl No w).alloc _
  have hbb := alloc_at w (.cells #[.int .i64 o.kind, .int .i64 o.id, .int .i64 o.n, .string o.key] 24) w.heap.size rfl
  have HFB := Lib.hid hfb
  have HBB := Lib.hid hbb
  clear hfb hbb
  go_wp2_with (first
    | (go_at_call 28; (with_reducible refine (HKC.out _).mono ?_); rintro e w1 ⟨rfl, hf1⟩
       have hb1 := hf1.heap HBB.out fun h => h
       obtain ⟨x0, x1, x2, x3⟩ := cells4 hb1
       have lb1 := heap_lt hb1
       have HF1 := Lib.hid (HFB.out.trans0 hf1)
       clear hf1 hb1)
    | (go_at_call 34; (with_reducible refine (HOP.out _ HF1.out).mono ?_); rintro e w2 ⟨rfl, h2⟩; have H2 := Lib.hid h2; clear h2))
  refine bodyPost_ret (results_tmp4 rfl _ _ _) rfl ?_
  refine do_of HF1.out ?_ ?_
  · rw [HST.out]
    have h2 := H2.out
    cases hg : getR R o.id with
    | none => rw [hg] at h2; exact h2
    | some x => rw [hg] at h2; exact h2
  · rw [HST.out]
    unfold attE
    cases hg : getR R o.id with
    | none => rfl
    | some x => rfl
set_option maxHeartbeats 4000000 in
theorem do_detach {n : Nat} (hn : n ≤ 999) {w : World} {t : Nat} {R : List LV} {F : Nat → Prop} (h : Lea n w t R F) (o : LOp) (ho : OpW o) (hk : o.kind % 8 = 5) :
    Calls Try.prog 12 #[.pointer (some ⟨t, 0, none⟩), opV o] w fun e w' => DoTo n w w' t F R o e := by
  have hop := fun W (hW : Fr No w W) => Detach_at (by omega) (h.fr0 hW) o.key ho.2.2.2
  have hst : stepR R o = (⟨0, ofR R o.key, [], []⟩, detachR R o.key) := by unfold stepR; rw [if_neg (by omega), if_neg (by omega), if_neg (by omega), if_neg (by omega), if_pos hk]
  have hkc := fun W => kind_calls W o 5 hk
  have HOP := Lib.hid hop
  have HST := Lib.hid hst
  have HKC := Lib.hid hkc
  clear hop hst hkc h ho hk
  unfold opV at HKC ⊢
  go_enter Try.func12, Try.ntmps12
  have hfb : Fr No w (w.alloc (.cells #[.int .i64 o.kind, .int .i64 o.id, .int .i64 o.n, .string o.key] 24)) := (Fr.refl No w).alloc _
  have hbb := alloc_at w (.cells #[.int .i64 o.kind, .int .i64 o.id, .int .i64 o.n, .string o.key] 24) w.heap.size rfl
  have HFB := Lib.hid hfb
  have HBB := Lib.hid hbb
  clear hfb hbb
  go_wp2_with (first
    | (go_at_call 28; (with_reducible refine (HKC.out _).mono ?_); rintro e w1 ⟨rfl, hf1⟩
       have hb1 := hf1.heap HBB.out fun h => h
       obtain ⟨x0, x1, x2, x3⟩ := cells4 hb1
       have lb1 := heap_lt hb1
       have HF1 := Lib.hid (HFB.out.trans0 hf1)
       clear hf1 hb1)
    | (go_at_call 35; (with_reducible refine (HOP.out _ HF1.out).mono ?_); rintro e w2 ⟨rfl, h2⟩; have H2 := Lib.hid h2; clear h2))
  refine bodyPost_ret (results_tmp4 rfl _ _ _) rfl ?_
  exact do_of HF1.out (by rw [HST.out]; exact H2.out) (by rw [HST.out])
set_option maxHeartbeats 4000000 in
theorem do_tick6 {n : Nat} (hn : n ≤ 999) {w : World} {t : Nat} {R : List LV} {F : Nat → Prop} (h : Lea n w t R F) (o : LOp) (_ho : OpW o) (hk : o.kind % 8 = 6) :
    Calls Try.prog 12 #[.pointer (some ⟨t, 0, none⟩), opV o] w fun e w' => DoTo n w w' t F R o e := by
  have hop := fun W (hW : Fr No w W) => Tick_at (by omega) (h.fr0 hW) o.n
  have hst : stepR R o = (⟨0, 0, [], toldR R o.n⟩, tickR R o.n) := by unfold stepR; rw [if_neg (by omega), if_neg (by omega), if_neg (by omega), if_neg (by omega), if_neg (by omega)]
  have hkc := fun W => kind_calls W o 6 hk
  have HOP := Lib.hid hop
  have HST := Lib.hid hst
  have HKC := Lib.hid hkc
  clear hop hst hkc h _ho hk
  unfold opV at HKC ⊢
  go_enter Try.func12, Try.ntmps12
  have hfb : Fr No w (w.alloc (.cells #[.int .i64 o.kind, .int .i64 o.id, .int .i64 o.n, .string o.key] 24)) := (Fr.refl No w).alloc _
  have hbb := alloc_at w (.cells #[.int .i64 o.kind, .int .i64 o.id, .int .i64 o.n, .string o.key] 24) w.heap.size rfl
  have HFB := Lib.hid hfb
  have HBB := Lib.hid hbb
  clear hfb hbb
  go_wp2_with (first
    | (go_at_call 28; (with_reducible refine (HKC.out _).mono ?_); rintro e w1 ⟨rfl, hf1⟩
       have hb1 := hf1.heap HBB.out fun h => h
       obtain ⟨x0, x1, x2, x3⟩ := cells4 hb1
       have lb1 := heap_lt hb1
       have HF1 := Lib.hid (HFB.out.trans0 hf1)
       clear hf1 hb1)
    | (go_at_call 19; (with_reducible refine (HOP.out _ HF1.out).mono ?_); rintro e w2 ⟨v, rfl, H2⟩))
  refine bodyPost_ret (results_tmp4 rfl _ _ _) rfl ?_
  obtain ⟨v', e1, g1, g2, F', g3, g4, g5, g6⟩ := H2.out.2
  cases e1
  have hs := HF1.out.size
  exact ⟨_, _, F', by rw [HST.out]; rfl, by rw [HST.out]; exact g3, (HF1.out.mono fun _ _ s => s.elim).trans g4 fun _ _ h => h, fun b hb => (g5 b hb).imp (fun h => h) fun h => by omega, by rw [HST.out]; exact SlF.nil _ _ _ _, by simp [Value.ownBlock], by rw [HST.out]; exact g1, fun b hb => ⟨g6 b hb, by have := g2 b hb; omega⟩⟩
set_option maxHeartbeats 4000000 in
theorem do_tick7 {n : Nat} (hn : n ≤ 999) {w : World} {t : Nat} {R : List LV} {F : Nat → Prop} (h : Lea n w t R F) (o : LOp) (_ho : OpW o) (hk : o.kind % 8 = 7) :
    Calls Try.prog 12 #[.pointer (some ⟨t, 0, none⟩), opV o] w fun e w' => DoTo n w w' t F R o e := by
  have hop := fun W (hW : Fr No w W) => Tick_at (by omega) (h.fr0 hW) o.n
  have hst : stepR R o = (⟨0, 0, [], toldR R o.n⟩, tickR R o.n) := by unfold stepR; rw [if_neg (by omega), if_neg (by omega), if_neg (by omega), if_neg (by omega), if_neg (by omega)]
  have hkc := fun W => kind_calls W o 7 hk
  have HOP := Lib.hid hop
  have HST := Lib.hid hst
  have HKC := Lib.hid hkc
  clear hop hst hkc h _ho hk
  unfold opV at HKC ⊢
  go_enter Try.func12, Try.ntmps12
  have hfb : Fr No w (w.alloc (.cells #[.int .i64 o.kind, .int .i64 o.id, .int .i64 o.n, .string o.key] 24)) := (Fr.refl No w).alloc _
  have hbb := alloc_at w (.cells #[.int .i64 o.kind, .int .i64 o.id, .int .i64 o.n, .string o.key] 24) w.heap.size rfl
  have HFB := Lib.hid hfb
  have HBB := Lib.hid hbb
  clear hfb hbb
  go_wp2_with (first
    | (go_at_call 28; (with_reducible refine (HKC.out _).mono ?_); rintro e w1 ⟨rfl, hf1⟩
       have hb1 := hf1.heap HBB.out fun h => h
       obtain ⟨x0, x1, x2, x3⟩ := cells4 hb1
       have lb1 := heap_lt hb1
       have HF1 := Lib.hid (HFB.out.trans0 hf1)
       clear hf1 hb1)
    | (go_at_call 19; (with_reducible refine (HOP.out _ HF1.out).mono ?_); rintro e w2 ⟨v, rfl, H2⟩))
  refine bodyPost_ret (results_tmp4 rfl _ _ _) rfl ?_
  obtain ⟨v', e1, g1, g2, F', g3, g4, g5, g6⟩ := H2.out.2
  cases e1
  have hs := HF1.out.size
  exact ⟨_, _, F', by rw [HST.out]; rfl, by rw [HST.out]; exact g3, (HF1.out.mono fun _ _ s => s.elim).trans g4 fun _ _ h => h, fun b hb => (g5 b hb).imp (fun h => h) fun h => by omega, by rw [HST.out]; exact SlF.nil _ _ _ _, by simp [Value.ownBlock], by rw [HST.out]; exact g1, fun b hb => ⟨g6 b hb, by have := g2 b hb; omega⟩⟩
theorem do_calls {n : Nat} (hn : n ≤ 999) {w : World} {t : Nat} {R : List LV} {F : Nat → Prop} (h : Lea n w t R F) (o : LOp) (ho : OpW o) :
    Calls Try.prog 12 #[.pointer (some ⟨t, 0, none⟩), opV o] w fun e w' => DoTo n w w' t F R o e := by
  have h0 : 0 ≤ o.kind % 8 := Int.emod_nonneg _ (by omega)
  have h1 : o.kind % 8 < 8 := Int.emod_lt_of_pos _ (by omega)
  by_cases k0 : o.kind % 8 = 0
  · exact do_grant hn h o ho k0
  by_cases k1 : o.kind % 8 = 1
  · exact do_revoke hn h o ho k1
  by_cases k2 : o.kind % 8 = 2
  · exact do_renew hn h o ho k2
  by_cases k3 : o.kind % 8 = 3
  · exact do_attach3 hn h o ho k3
  by_cases k4 : o.kind % 8 = 4
  · exact do_attach4 hn h o ho k4
  by_cases k5 : o.kind % 8 = 5
  · exact do_detach hn h o ho k5
  by_cases k6 : o.kind % 8 = 6
  · exact do_tick6 hn h o ho k6
  · exact do_tick7 hn h o ho (by omega)
/-- Behind a call of the table as the law does it, its slices told. -/
def DoIn (n : Nat) (w w' : World) (t : Nat) (F : Nat → Prop) (R : List LV) (o : LOp) (kv mv : Value) : Prop :=
  ∃ F', Lea (n + 1) w' t (stepR R o).2 F' ∧ Fr F w w' ∧ (∀ b, F' b → F b ∨ w.heap.size ≤ b) ∧
    SlF w' 9 1 strC kv (stepR R o).1.keys ∧ (∀ b, kv.ownBlock = some b → ¬ F' b ∧ (F b ∨ w.heap.size ≤ b)) ∧ SlF w' 3 1 int1 mv (stepR R o).1.told ∧ ∀ b, mv.ownBlock = some b → ¬ F' b ∧ w.heap.size ≤ b
theorem do_at {n : Nat} (hn : n ≤ 999) {w : World} {t : Nat} {R : List LV} {F : Nat → Prop} (h : Lea n w t R F) (o : LOp) (ho : OpW o) :
    Calls Try.prog 12 #[.pointer (some ⟨t, 0, none⟩), opV o] w fun e w' => ∃ (a1 : Option Addr) (c1 : Nat) (a2 : Option Addr) (c2 : Nat),
      e = .returned (.tuple #[.int .i64 (stepR R o).1.e, .int .i64 (stepR R o).1.n, .slice a1 (stepR R o).1.keys.length c1, .slice a2 (stepR R o).1.told.length c2]) ∧
      Hid (e = e ∧ DoIn n w w' t F R o (.slice a1 (stepR R o).1.keys.length c1) (.slice a2 (stepR R o).1.told.length c2)) := by
  refine (do_calls hn h o ho).mono fun e w' hd => ?_
  obtain ⟨kv, mv, F', he, h1, h2, h3, hk, h4, hm, h5⟩ := hd
  obtain ⟨a1, c1, rfl, _⟩ := hk.shape
  obtain ⟨a2, c2, rfl, _⟩ := hm.shape
  exact ⟨a1, c1, a2, c2, he, Lib.hid ⟨rfl, F', h1, h2, h3, hk, h4, hm, h5⟩⟩
end Go.Proofs.Ytlomeohcgjgpjaa
