/- The table's Over over the document's table. The condition: at most 1000 calls. -/
import Derived.Test.YtlomeohcgjgpjaaLeaZ
namespace Go.Proofs.Ytlomeohcgjgpjaa
open Go Go.Proofs Go.RowKit
set_option maxRecDepth 100000

/-- Numbers in memory of their own. -/
def Nums (w w' : World) (out : List Int) (e : Ending) : Prop := ∃ v, e = .returned v ∧ SlF w' 3 1 int1 v out ∧ (∀ b, v.ownBlock = some b → w.heap.size ≤ b) ∧ Fr No w w'
theorem Over_nil (w : World) : Calls Try.prog 21 #[.pointer none] w fun e w' => e = .returned (.slice none 0 0) ∧ w = w' := by
  have hL := List_nil w
  go_enter Try.func21, Try.ntmps21
  go_wp2_with (go_at_call 11; (with_reducible refine hL.mono ?_); rintro e w' ⟨rfl, rfl⟩)
  go_loopg [3, 9] 0 (fun g s3 s9 wr => s3 = .slice none 0 0 ∧ s9 = .int .i64 0 ∧ Hid (w = wr))
  case atStart => exact ⟨rfl, rfl, Lib.hid rfl⟩
  case round =>
    obtain ⟨rfl, rfl, HW⟩ := hrel
    obtain rfl := HW.out
    go_wp2
    go_ret
    exact ⟨rfl, rfl⟩
theorem over_step {R : List LV} {i : Nat} {x : LV} (hx : R[i]? = some x) : overR (R.take (i + 1)) = overR (R.take i) ++ if x.left = 0 then [x.id] else [] := by
  unfold overR
  rw [List.take_add_one, hx, List.filter_append, List.map_append]
  congr 1
  by_cases h : x.left = 0
  · simp [h]
  · simp [h]
set_option maxHeartbeats 4000000 in
theorem Over_calls {n : Nat} (hn : n ≤ 1000) {w : World} {t : Nat} {R : List LV} {F : Nat → Prop} (h : Lea n w t R F) :
    Calls Try.prog 21 #[.pointer (some ⟨t, 0, none⟩)] w fun e w' => Nums w w' (overR R) e := by
  have hL := List_calls hn h
  have hRl : R.length ≤ 1000 := Nat.le_trans h.ok.len hn
  have HL := Lib.hid hL
  clear hL h
  obtain ⟨i0, hi0, hz0, hz1, hz2⟩ := info_parts info3
  go_enter Try.func21, Try.ntmps21
  go_wp2_with (go_at_call 11; (with_reducible refine HL.out.mono ?_); rintro e w1 ⟨lv, P, rfl, hl1, hP, hf1⟩
               obtain ⟨la, lc, rfl, hc1, hc2, hc3⟩ := hl1.sl.shape
               have hPl : P.length = R.length := by rw [← hP, List.length_map]
               have HL1 := Lib.hid hl1
               have HP := Lib.hid hP
               have HF1 := Lib.hid hf1
               have HC3 := Lib.hid hc3
               have HPL := Lib.hid hPl
               unfold maxLen at hc2
               have hP9 : P.length ≤ 1000 := by omega
               clear hl1 hP hf1 hc3 hPl)
  go_loopg [3, 9] P.length (fun g s3 s9 wr => ∃ (i : Nat) (v : Value), s9 = .int .i64 i ∧ s3 = v ∧ i + g = P.length ∧ Hid (SlF wr 3 1 int1 v (overR (R.take i))) ∧ Hid (∀ b, v.ownBlock = some b → w1.heap.size ≤ b) ∧ Hid (Fr No w1 wr))
  case atStart => exact ⟨0, _, rfl, rfl, by simp, Lib.hid (SlF.nil _ _ _ _), Lib.hid (by simp [Value.ownBlock]), Lib.hid (Fr.refl _ _)⟩
  case round =>
    obtain ⟨i, v, rfl, rfl, hi, HS, HN, HF⟩ := hrel
    cases gk with
    | zero =>
      have hil : ¬ (i : Int) < (P.length : Int) := by omega
      go_wp2
      go_ret
      have hie : i = R.length := by rw [← HPL.out]; omega
      have hs := HS.out
      rw [hie, List.take_length] at hs
      have h1 := HF1.out.size
      exact ⟨_, rfl, hs, fun b hb => by have := HN.out b hb; omega, HF1.out.trans0 HF.out⟩
    | succ g =>
      obtain ⟨gb, go, rfl⟩ := HC3.out (by omega)
      obtain ⟨⟨x, kv⟩, hx⟩ : ∃ p, P[i]? = some p := ⟨_, List.getElem?_eq_getElem (by omega)⟩
      have hRx : R[i]? = some x := by rw [← HP.out, List.getElem?_map, hx]; rfl
      have hstep := over_step hRx
      have hsl := HL1.out.sl.fr0 HF.out
      obtain ⟨c0, c1, c2, c3⟩ := hsl.cells4 lvC_length i hx rfl
      obtain ⟨ka, kc, hkv, _, _, _⟩ := (HL1.out.keys _ (List.mem_of_getElem? hx)).1.shape
      dsimp only at hkv
      subst hkv
      have lgb := hsl.lt gb rfl
      have hil : (i : Int) < (P.length : Int) := by omega
      have hol : (overR (R.take i)).length ≤ 1000 := by
        unfold overR
        rw [List.length_map]
        have := List.length_filter_le (fun x : LV => x.left == 0) (R.take i)
        rw [List.length_take] at this
        omega
      have HST := Lib.hid hstep
      dsimp only at c3
      clear hx hRx hstep hsl
      by_cases h0 : x.left = 0
      · have hb0 : (x.left == 0) = true := by simpa using h0
        go_upto_region 6 with fail
        have hb4 := alloc_at wr (.cells #[.int .i64 x.id, .int .i64 x.ticks, .int .i64 0, .slice ka x.keys.length kc] 36) wr.heap.size rfl
        have hfa : Fr No wr (wr.alloc (.cells #[.int .i64 x.id, .int .i64 x.ticks, .int .i64 0, .slice ka x.keys.length kc] 36)) := (Fr.refl No wr).alloc _
        generalize wr.alloc (.cells #[.int .i64 x.id, .int .i64 x.ticks, .int .i64 0, .slice ka x.keys.length kc] 36) = W at *
        have d0 := cellAt hb4 0 rfl
        have lb4 := heap_lt hb4
        have HSW := Lib.hid (HS.out.fr0 hfa)
        have HFW := Lib.hid (HF.out.trans0 hfa)
        have hww := hfa.size
        have hnew := cells_new W [.int .i64 x.id] 3 (0, 0)
        clear hb4 hfa c0 c1 c2 c3
        go_wp2_with (at_builtin; go_loud (refine wpList_append_f rfl _ _ 31 rfl 3 i0 _ 1 8 Try.underlying31 hi0 hz0 hz1 hz2 rfl (by decide) _ (overR (R.take i)) rfl (HSW.out.alloc _) W.heap.size 1 x.id rfl hnew rfl ?c1 ?c2 ?c3 ?_))
        case c1 => intro u hu; simp [int1] at hu; subst hu; rfl
        case c2 => unfold maxLen; omega
        case c3 => omega
        intro g7 o7 cap7 w6 hs6 hg6 hb6 hlt6
        have hf6 : Fr (fun b => u3.ownBlock = some b) W w6 := ((Fr.refl _ W).alloc _).trans ((Fr.refl _ _).grown hg6 fun k hk => .inl hk) fun _ _ h => h
        have hw1 := HFW.out.size
        have hf06 : Fr No w1 w6 := HFW.out.trans hf6 fun b hb h => by have := HN.out b h; omega
        have hn6 : ∀ b, (Value.slice (some ⟨g7, o7, none⟩) ((overR (R.take i)).length + 1) cap7).ownBlock = some b → w1.heap.size ≤ b := fun b hb => by
          obtain rfl : g7 = b := by simpa [Value.ownBlock] using hb
          rcases hb6 with h | h
          · exact HN.out _ h
          · have h' : g7 = W.heap.size + 1 := by simpa using h
            omega
        have HS6 := Lib.hid (show SlF w6 3 1 int1 (.slice (some ⟨g7, o7, none⟩) ((overR (R.take i)).length + 1) cap7) (overR (R.take (i + 1))) from by rw [HST.out, if_pos h0]; unfold SlF at hs6 ⊢; simpa using hs6)
        have HN6 := Lib.hid hn6
        have HF6 := Lib.hid hf06
        clear hf6 hf06 hn6 hs6 hg6 hb6 hnew d0
        go_wp2
        go_roundg g
        case rel => exact ⟨i + 1, _, by go_num, rfl, by omega, HS6, HN6, HF6⟩
        case measure => omega
      · have hb0 : (x.left == 0) = false := by simpa using h0
        go_wp2
        go_roundg g
        case rel => exact ⟨i + 1, _, by go_num, rfl, by omega, Lib.hid (by rw [HST.out, if_neg h0, List.append_nil]; exact HS.out.alloc _), HN, Lib.hid (HF.out.alloc _)⟩
        case measure => omega
end Go.Proofs.Ytlomeohcgjgpjaa
