/- The law's do over the nil table; the statement LeaseNil's function returns true, whatever its argument is. -/
import Derived.Test.YtlomeohcgjgpjaaWak
namespace Go.Proofs.Ytlomeohcgjgpjaa
open Go Go.Proofs Go.RowKit
set_option maxRecDepth 100000

theorem Renew_nil (w : World) (id : Int) : Calls Try.prog 33 #[.pointer none, .int .i64 id] w fun e w' => e = .returned (.tuple #[.int .i64 0, .int .i64 2]) ∧ w = w' := by
  have hf := fun W => find_nil W id
  go_enter Try.func33, Try.ntmps33
  go_wp2_with (go_at_call 36; (with_reducible refine (hf _).mono ?_); rintro e w' ⟨rfl, rfl⟩)
  go_ret2
  exact ⟨rfl, rfl⟩
/-- A call's cells behind a change of the world. -/
def HasOp (W : World) (b : Nat) (o : LOp) : Prop := W.heap[b]? = some (.cells #[.int .i64 o.kind, .int .i64 o.id, .int .i64 o.n, .string o.key] 24 (0, 0))
def nilE (c : Int) : Int := if c > 4 then 0 else 2
set_option maxHeartbeats 8000000 in
theorem do_nil (w : World) (o : LOp) (c : Int) (hc : o.kind % 8 = c) : Calls Try.prog 12 #[.pointer none, opV o] w fun e w' => e = .returned (.tuple #[.int .i64 (nilE c), .int .i64 0, .slice none 0 0, .slice none 0 0]) ∧ Fr No w w' := by
  have hkc := fun W => kind_calls W o c hc
  have h0 : 0 ≤ c := by rw [← hc]; exact Int.emod_nonneg _ (by omega)
  have h1 : c < 8 := by rw [← hc]; exact Int.emod_lt_of_pos _ (by omega)
  have HKC := Lib.hid hkc
  clear hkc hc
  have hfb : Fr No w (w.alloc (.cells #[.int .i64 o.kind, .int .i64 o.id, .int .i64 o.n, .string o.key] 24)) := (Fr.refl No w).alloc _
  have hbb := alloc_at w (.cells #[.int .i64 o.kind, .int .i64 o.id, .int .i64 o.n, .string o.key] 24) w.heap.size rfl
  have HFB := Lib.hid hfb
  have HBB := Lib.hid hbb
  clear hfb hbb
  unfold opV at HKC ⊢
  have h8 : c = 0 ∨ c = 1 ∨ c = 2 ∨ c = 3 ∨ c = 4 ∨ c = 5 ∨ c = 6 ∨ c = 7 := by omega
  clear h0 h1
  rcases h8 with rfl | rfl | rfl | rfl | rfl | rfl | rfl | rfl
  all_goals
    go_enter Try.func12, Try.ntmps12
    go_wp2_with (first
      | (go_at_call 28; (with_reducible refine (HKC.out _).mono ?_); rintro e w1 ⟨rfl, hf1⟩
         have hb1 := hf1.heap HBB.out fun h => h
         obtain ⟨x0, x1, x2, x3⟩ := cells4 hb1
         have lb1 := heap_lt hb1
         have HF1 := Lib.hid (HFB.out.trans0 hf1)
         clear hf1 hb1)
      | (go_at_call 32; (with_reducible refine (Grant_nil _ _ _).mono ?_); rintro e w2 ⟨rfl, rfl⟩; have HF2 := HF1)
      | (go_at_call 17; (with_reducible refine (Revoke_nil _ _).mono ?_); rintro e w2 ⟨rfl, rfl⟩; have HF2 := HF1)
      | (go_at_call 33; (with_reducible refine (Renew_nil _ _).mono ?_); rintro e w2 ⟨rfl, rfl⟩; have HF2 := HF1)
      | (go_at_call 34; (with_reducible refine (Attach_nil _ _ _).mono ?_); rintro e w2 ⟨rfl, rfl⟩; have HF2 := HF1)
      | (go_at_call 35; (with_reducible refine (Detach_nil _ _).mono ?_); rintro e w2 ⟨rfl, hf2⟩; have HF2 := Lib.hid (HF1.out.trans0 hf2); clear hf2)
      | (go_at_call 19; (with_reducible refine (Tick_nil _ _).mono ?_); rintro e w2 ⟨rfl, rfl⟩; have HF2 := HF1))
    refine bodyPost_ret (results_tmp4 rfl _ _ _) rfl ?_
    exact ⟨rfl, HF2.out⟩
set_option maxHeartbeats 8000000 in
theorem leaseNil_walk (w : World) (o : LOp) (_ : OpW o) : Calls Try.prog 9 #[opV o] w fun e w' => e = .returned (.bool true) ∧ Fr No w w' := by
  obtain ⟨c, hc⟩ : ∃ c, o.kind % 8 = c := ⟨_, rfl⟩
  have hdo := fun W => do_nil W o c hc
  have hkc := fun W => kind_calls W o c hc
  have HDO := Lib.hid hdo
  have HKC := Lib.hid hkc
  clear hdo hkc hc
  have hfb : Fr No w (w.alloc (.cells #[.int .i64 o.kind, .int .i64 o.id, .int .i64 o.n, .string o.key] 24)) := (Fr.refl No w).alloc _
  have hbb := alloc_at w (.cells #[.int .i64 o.kind, .int .i64 o.id, .int .i64 o.n, .string o.key] 24) w.heap.size rfl
  have HFB := Lib.hid hfb
  have HBB := Lib.hid hbb
  clear hfb hbb
  have hcc : (c > 4 ∧ nilE c = 0) ∨ (¬ c > 4 ∧ nilE c = 2) := by
    unfold nilE
    by_cases h : c > 4
    · exact .inl ⟨h, if_pos h⟩
    · exact .inr ⟨h, if_neg h⟩
  unfold opV at HDO HKC ⊢
  rcases hcc with ⟨hc4, hce⟩ | ⟨hc4, hce⟩
  all_goals
    rw [hce] at HDO
    clear hce
    go_enter Try.func9, Try.ntmps9
    go_wp2_with (first
      | (go_at_call 12; (with_reducible refine (HDO.out _).mono ?_); rintro e w1 ⟨rfl, hf1⟩
         have hb1 := hf1.heap HBB.out fun h => h
         have HB1 := Lib.hid hb1
         obtain ⟨x0, x1, x2, x3⟩ := cells4 hb1
         have lb1 := heap_lt hb1
         have HF1 := Lib.hid (HFB.out.trans0 hf1)
         clear hf1 hb1)
      | (go_at_call 16; (with_reducible refine (Get_nil _ _).mono ?_); rintro e w2 ⟨rfl, hf2⟩
         unfold lvV
         have hb2 := alloc_old (hf2.heap HB1.out fun h => h) (.cells #[.int .i64 0, .int .i64 0, .int .i64 0, .slice none 0 0] 36)
         have HF2 := Lib.hid ((HF1.out.trans0 hf2).alloc (.cells #[.int .i64 0, .int .i64 0, .int .i64 0, .slice none 0 0] 36))
         have HB2 := Lib.hid hb2
         have HC2 := Lib.hid (alloc_at w2 (.cells #[.int .i64 0, .int .i64 0, .int .i64 0, .slice none 0 0] 36) w2.heap.size rfl)
         obtain ⟨y0, y1, y2, y3⟩ := cells4 hb2
         have ly := heap_lt hb2
         clear hf2 hb2)
      | (go_at_call 28; (with_reducible refine (HKC.out _).mono ?_); rintro e w3 ⟨rfl, hf3⟩
         have hb3 := hf3.heap HB2.out fun h => h
         have hd3 := hf3.heap HC2.out fun h => h
         have HF3 := Lib.hid (HF2.out.trans0 hf3)
         obtain ⟨z0, z1, z2, z3⟩ := cells4 hb3
         obtain ⟨v0, v1, v2, v3⟩ := cells4 hd3
         have lz := heap_lt hb3
         have lv := heap_lt hd3
         clear hf3 hb3 hd3)
      | (go_at_call 15; (with_reducible refine (Of_nil _ _).mono ?_); rintro e w4 ⟨rfl, rfl⟩)
      | (go_at_call 21; (with_reducible refine (Over_nil _).mono ?_); rintro e w4 ⟨rfl, rfl⟩)
      | (go_at_call 11; (with_reducible refine (List_nil _).mono ?_); rintro e w4 ⟨rfl, rfl⟩)
      | (go_at_call 14; (with_reducible refine (awake_calls _).mono ?_); rintro e w5 ⟨rfl, hf5⟩))
    go_ret
    exact ⟨rfl, HF3.out.trans0 hf5⟩
end Go.Proofs.Ytlomeohcgjgpjaa
