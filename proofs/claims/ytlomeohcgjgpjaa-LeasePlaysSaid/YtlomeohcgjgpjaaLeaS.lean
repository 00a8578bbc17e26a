/- The table's Grant over the document's table. The condition: numbers of int's range, at most 1000 calls. -/
import Derived.Test.YtlomeohcgjgpjaaLeaQ
namespace Go.Proofs.Ytlomeohcgjgpjaa
open Go Go.Proofs Go.RowKit
set_option maxRecDepth 100000

theorem LeaTo.trans {n : Nat} {w w1 w2 : World} {t : Nat} {F F1 : Nat → Prop} {R : List LV} (hf : Fr F w w1) (hn : ∀ b, F1 b → F b ∨ w.heap.size ≤ b) (h : LeaTo n w1 w2 t F1 R) : LeaTo n w w2 t F R := by
  obtain ⟨F2, h1, h2, h3⟩ := h
  have hs := hf.size
  refine ⟨F2, h1, hf.trans h2 fun j hj s => ?_, fun b hb => ?_⟩
  · rcases hn j s with h | h
    · exact h
    · omega
  · rcases h3 b hb with h | h
    · exact hn b h
    · exact .inr (by omega)
theorem setL_ins {L : List (Int × Ls)} {id : Int} {l : Ls} {f : Ls → Ls} (hn : ∀ x ∈ L, x.1 ≠ id) : setL (insBy Prod.fst (id, l) L) id f = insBy Prod.fst (id, f l) L := by
  unfold setL
  induction L with
  | nil => simp [insBy]
  | cons x L ih =>
    have hx := hn x (List.mem_cons_self ..)
    have ih := ih fun y hy => hn y (List.mem_cons_of_mem _ hy)
    have hsame : (x :: L).map (fun x => if x.1 = id then (x.1, f x.2) else x) = x :: L := by
      conv => rhs; rw [← List.map_id (x :: L)]
      refine List.map_congr_left fun y hy => ?_
      rw [if_neg (hn y hy)]; rfl
    unfold insBy
    dsimp only
    split
    · rw [List.map_cons, hsame, if_pos rfl]
    · rw [List.map_cons, if_neg hx, ih]
/-- What a Grant that is right leaves. -/
theorem grant_ok {n : Nat} {T : LT} (hT : TOk n T) {id ticks : Int} (he : grantE T.view id ticks = 0) (hi : id ≤ maxI) (hnone : getL T.L id = none) :
    ∀ q', HeapOk q' → q'.Perm (T.q ++ [(T.now + ticks, id)]) → TOk (n + 1) ⟨setL (insBy Prod.fst (id, ⟨ticks, 0, false, []⟩) T.L) id (begF T.now), T.now, q'⟩ ∧ LT.view ⟨setL (insBy Prod.fst (id, ⟨ticks, 0, false, []⟩) T.L) id (begF T.now), T.now, q'⟩ = grantR T.view id ticks := by
  intro q' h1 h2
  rw [setL_ins (getL_none hnone)]
  exact hT.grant he hi h2 h1
theorem Grant_nil (w : World) (id ticks : Int) : Calls Try.prog 32 #[.pointer none, .int .i64 id, .int .i64 ticks] w fun e w' => e = .returned (.int .i64 2) ∧ w = w' := by
  go_enter Try.func32, Try.ntmps32
  go_wp2
  go_ret
  exact ⟨rfl, rfl⟩
set_option maxHeartbeats 4000000 in
theorem Grant_calls {n : Nat} (hn : n ≤ 1000) {w : World} {t : Nat} {R : List LV} {F : Nat → Prop} (h : Lea n w t R F) (id ticks : Int) (hwf : (Lit.int .i64 id).wf = true) (hi : id ≤ maxI) :
    Calls Try.prog 32 #[.pointer (some ⟨t, 0, none⟩), .int .i64 id, .int .i64 ticks] w fun e w' => e = .returned (.int .i64 (grantE R id ticks)) ∧ LeaTo (n + 1) w w' t F (if grantE R id ticks = 0 then grantR R id ticks else R) := by
  have hL := h
  by_cases h1 : id < 1
  · have he : grantE R id ticks = 1 := by unfold grantE; rw [if_pos (.inl h1)]
    rw [he, if_neg (by decide)]
    have HL := Lib.hid hL
    clear hL h hwf he hi
    go_enter Try.func32, Try.ntmps32
    go_wp2
    all_goals first | (exfalso; omega) | skip
    all_goals
      go_ret
      exact ⟨rfl, HL.out.to (Nat.le_succ _) (Fr.refl _ _)⟩
  by_cases h2 : ticks < 1
  · have he : grantE R id ticks = 1 := by unfold grantE; rw [if_pos (.inr (.inl h2))]
    rw [he, if_neg (by decide)]
    have HL := Lib.hid hL
    clear hL h hwf he hi
    go_enter Try.func32, Try.ntmps32
    go_wp2
    all_goals first | (exfalso; omega) | skip
    all_goals
      go_ret
      exact ⟨rfl, HL.out.to (Nat.le_succ _) (Fr.refl _ _)⟩
  by_cases h3 : 1073741824 < ticks
  · have he : grantE R id ticks = 1 := by unfold grantE; rw [if_pos (.inr (.inr h3))]
    rw [he, if_neg (by decide)]
    have HL := Lib.hid hL
    clear hL h hwf he hi
    go_enter Try.func32, Try.ntmps32
    go_wp2
    all_goals first | (exfalso; omega) | skip
    all_goals
      go_ret
      exact ⟨rfl, HL.out.to (Nat.le_succ _) (Fr.refl _ _)⟩
  have he0 : grantE R id ticks = if (getR R id).isSome then 34 else 0 := by
    unfold grantE
    rw [if_neg (by unfold maxT; omega)]
  obtain ⟨T, ⟨m, o, qv, hp, FL, a, hF⟩, hT, rfl⟩ := h
  have c0 := a.obj.cell 0 rfl
  have lt := a.obj.lt
  have hk := look_hp (hp := hp) id
  cases hl : getL T.L id with
  | some l =>
    obtain ⟨p, hpp, hls⟩ := a.ls id l hl
    have hsome : (getR T.view id).isSome = true := by rw [getR_T, hl]; rfl
    rw [if_pos hsome] at he0
    rw [he0, if_neg (by decide)]
    rw [hpp] at hk
    have HK : Hid (((fun i => (hp i).map fun h => Value.pointer (some ⟨h, 0, none⟩)) id).getD (.pointer none) = .pointer (some ⟨p, 0, none⟩)) := Lib.hid (by dsimp only; rw [hpp]; exact hk)
    have HM := Lib.hid a.map
    have HL := Lib.hid hL
    have HW := Lib.hid hwf
    clear hL a hF hl hT hk hpp hls hsome he0 hwf hi
    go_enter Try.func32, Try.ntmps32
    go_wp2_with (at_lookup; refine wpList_look rfl _ _ 63 rfl 3 69 Try.underlying63 Try.underlying3 m _ rfl HM.out id rfl HW.out _ (zero69 _) _ HK.out ?_)
    all_goals first | (exfalso; omega) | skip
    go_ret
    exact ⟨rfl, HL.out.to (Nat.le_succ _) (Fr.refl _ _)⟩
  | none =>
    have hpp := (a.gone id hl).1
    have hsome : ¬ (getR T.view id).isSome = true := by rw [getR_T, hl]; simp
    rw [if_neg hsome] at he0
    rw [he0, if_pos rfl]
    rw [hpp] at hk
    have HK : Hid (((fun i => (hp i).map fun h => Value.pointer (some ⟨h, 0, none⟩)) id).getD (.pointer none) = .pointer none) := Lib.hid (by dsimp only; rw [hpp]; exact hk)
    have hok := grant_ok hT he0 hi hl
    have hn0 := hT.now0
    have hn1 := hT.now1
    unfold maxT at hn1
    have hbeg : ∀ W p (m' o' : Nat) (qv' : Value) hp' FL', LeaR W t m' o' qv' hp' FL' ⟨insBy Prod.fst (id, ⟨ticks, 0, false, []⟩) T.L, T.now, T.q⟩ → hp' id = some p →
        Calls Try.prog 49 #[.pointer (some ⟨t, 0, none⟩), .int .i64 id, .pointer (some ⟨p, 0, none⟩)] W fun e w' => e = .returned (.tuple #[]) ∧ BegOut W w' t m' o' qv' hp' FL' ⟨insBy Prod.fst (id, ⟨ticks, 0, false, []⟩) T.L, T.now, T.q⟩ id ⟨ticks, 0, false, []⟩ :=
      fun W p m' o' qv' hp' FL' hR hpid => begin_calls hR id p ⟨ticks, 0, false, []⟩ (by rw [getL_ins (getL_none hl), if_pos rfl]) hpid hT.heap (by have := hT.qlen; show T.q.length < _; omega) hn0 (by show T.now ≤ _; omega) (by show 0 ≤ ticks; omega) (by show ticks ≤ _; omega)
    have HBEG := Lib.hid hbeg
    have HOK := Lib.hid hok
    have HA := Lib.hid a
    have HNL := Lib.hid hl
    have HFF := Lib.hid hF
    have HM := Lib.hid a.map
    have HW := Lib.hid hwf
    clear hL a hF hl hT hk hpp hsome he0 hwf hi hbeg hok
    go_enter Try.func32, Try.ntmps32
    go_upto_region 7 with (at_lookup; refine wpList_look rfl _ _ 63 rfl 3 69 Try.underlying63 Try.underlying3 m _ rfl HM.out id rfl HW.out _ (zero69 _) _ HK.out ?_)
    all_goals first | (exfalso; omega) | skip
    have HK1 : Hid (((fun i => if i = id then some (Value.pointer (some ⟨w.heap.size, 0, none⟩)) else (hp i).map fun h => Value.pointer (some ⟨h, 0, none⟩)) id).getD (.pointer none) = .pointer (some ⟨w.heap.size, 0, none⟩)) := Lib.hid (by dsimp only; rw [if_pos rfl]; rfl)
    go_upto_region 8 with (refine wpList_store rfl _ _ _ 63 rfl 3 69 Try.underlying63 Try.underlying3 m _ rfl (HM.out.alloc _) id rfl HW.out (.pointer (some ⟨w.heap.size, 0, none⟩)) rfl ?_; intro w1 hm1 hf1 hsz1)
    have ho1 : Has w1 w.heap.size [.int .i64 ticks, .int .i64 0, .bool false, .slice none 0 0] := by
      refine Has.fr (w := w.alloc (.cells #[.int .i64 ticks, .int .i64 0, .bool false, .slice none 0 0] 80)) ⟨80, alloc_at _ _ _ rfl⟩ hf1 (fun e => ?_)
      have := HM.out.lt
      have e' : w.heap.size = m := e
      omega
    have hfa : Fr (fun b => b = m) w w1 := ((Fr.refl (fun b => b = m) w).alloc _).trans hf1 fun _ _ h => h
    have hadd := HA.out.addLs (l := ⟨ticks, 0, false, []⟩) HNL.out rfl hfa (Nat.le_refl _) ho1 hm1
    have hcb := HBEG.out w1 w.heap.size m o qv _ _ hadd (if_pos rfl)
    have c01 := hadd.obj.cell 0 rfl
    have lt1 : t < w1.heap.size := hadd.obj.lt
    have lp1 : w.heap.size < w1.heap.size := ho1.lt
    have HM1 := Lib.hid hm1
    have HCB := Lib.hid hcb
    have HADD := Lib.hid hadd
    have HFA := Lib.hid hfa
    clear hm1 hf1 hsz1 ho1 hfa hadd hcb c0
    go_wp2_with (first
      | (at_lookup; refine wpList_look rfl _ _ 63 rfl 3 69 Try.underlying63 Try.underlying3 m _ rfl HM1.out id rfl HW.out _ (zero69 _) _ HK1.out ?_)
      | (go_at_call 49; (with_reducible refine HCB.out.mono ?_); rintro e w2 ⟨rfl, hb2⟩; have HB2 := Lib.hid hb2; clear hb2))
    go_ret
    refine ⟨rfl, LeaTo.trans (F1 := leaF t m o qv fun i => if i = id then (fun b => b = w.heap.size) else FL i) (HFA.out.mono fun b _ e => (HFF.out b).2 (.inr (.inl e))) ?_ (HB2.out.to (fun _ => Iff.rfl) HOK.out)⟩
    rintro b (h | h | h | h | ⟨i, h⟩)
    · exact .inl ((HFF.out b).2 (.inl h))
    · exact .inl ((HFF.out b).2 (.inr (.inl h)))
    · exact .inl ((HFF.out b).2 (.inr (.inr (.inl h))))
    · exact .inl ((HFF.out b).2 (.inr (.inr (.inr (.inl h)))))
    · split at h
      · right
        have e : b = w.heap.size := h
        omega
      · exact .inl ((HFF.out b).2 (.inr (.inr (.inr (.inr ⟨i, h⟩)))))
end Go.Proofs.Ytlomeohcgjgpjaa
