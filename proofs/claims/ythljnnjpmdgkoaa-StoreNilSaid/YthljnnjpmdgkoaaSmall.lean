/- The store's New, Rev, when, room. The condition of room: there is a revision left. -/
import Derived.Test.YthljnnjpmdgkoaaStore2
import Derived.Test.YthljnnjpmdgkoaaAsks
namespace Go.Proofs.Ythljnnjpmdgkoaa
open Go Go.Proofs Go.RowKit
set_option maxRecDepth 100000

def st0 : St := { T := [], past := fun _ => none, next := 0, rev := 0, mark := 0, events := [] }
theorem st0_ok (n : Nat) : StOk n st0 := ⟨by simp [st0], by simp [st0], by simp [st0], by simp [st0], by simp [st0], by simp [st0, top], by simp [st0, top], by simp [st0], by simp [st0]⟩

theorem StoreNew_calls {TA : TreeRel} {N : Nat} (hT : TreeOk TA N) (w : World) : Calls Try.prog 31 #[] w fun e w' => ∃ s, e = .returned (.pointer (some ⟨s, 0, none⟩)) ∧ ∃ F, StoreAt TA w' s st0 F ∧ Fr No w w' ∧ (∀ b, F b → w.heap.size ≤ b) := by
  have hmm : ∀ w, (Instr.makeMap 119 none).run Try.prog w = .ok (.map (some w.heap.size)) (w.alloc (.map #[] 0)) := fun w => run_makeMap 119 w
  go_enter Try.func31, Try.ntmps31
  go_wp2_with (go_at_call 67; refine (hT.new w).mono ?_; rintro e w1 ⟨t, rfl, FT, ht, hf, hn⟩)
  go_ret
  have hlt := hT.lt ht
  have hsz := hf.size
  refine ⟨_, rfl, storeF (w1.heap.size + 1) w1.heap.size (.slice none 0 0) FT fun _ _ => False, ⟨t, w1.heap.size, .slice none 0 0, fun _ => none, FT, fun _ _ => False, ?_, fun _ => Iff.rfl⟩, (hf.alloc _).alloc _, ?_⟩
  · exact {
      obj := ⟨121, alloc_at _ _ _ (by simp)⟩
      tree := hT.fr ht (((Fr.refl No w1).alloc _).alloc _) fun _ _ s => s
      map := (MapAt.made w1).alloc _
      events := SlF.nil _ _ _ _
      hist := fun i H h => by simp [st0] at h
      gone := fun i h => ⟨rfl, fun _ h => h⟩
      ds := ⟨fun h => by have := hlt _ h; omega, by simp [Value.ownBlock], fun _ h => h⟩
      dp := ⟨fun h => by have := hlt _ h; omega, by simp [Value.ownBlock], fun _ h => h⟩
      dt := fun b hb => ⟨by simp [Value.ownBlock], fun _ h => h⟩
      de := fun b hb => by simp [Value.ownBlock] at hb
      dh := fun _ _ _ h => h.elim }
  · rintro b (rfl | rfl | h | h | ⟨_, h⟩)
    · omega
    · omega
    · exact hn b h
    · simp [Value.ownBlock] at h
    · exact h.elim

theorem StoreRev_calls {TA : TreeRel} (w : World) (s : Nat) (S : St) (F : Nat → Prop) (hS : StoreAt TA w s S F) : Calls Try.prog 33 #[.pointer (some ⟨s, 0, none⟩)] w fun e w' => e = .returned (.int .i64 S.rev) ∧ w = w' := by
  obtain ⟨t, p, ev, hp, FT, FH, a, hF⟩ := hS
  have c3 := a.obj.cell 3 rfl
  have ls := a.obj.lt
  clear a
  go_enter Try.func33, Try.ntmps33
  go_wp2
  go_ret
  exact ⟨rfl, rfl⟩

/-- What is wrong with a range's revision. -/
def whenE (S : St) (rev : Int) : Int := if S.rev < rev then 33 else if rev ≠ 0 ∧ rev < S.mark then 32 else 0

theorem when_calls {TA : TreeRel} (w : World) (s : Nat) (S : St) (F : Nat → Prop) (hS : StoreAt TA w s S F) (rev : Int) : Calls Try.prog 65 #[.pointer (some ⟨s, 0, none⟩), .int .i64 rev] w fun e w' => e = .returned (.int .i64 (whenE S rev)) ∧ w = w' := by
  obtain ⟨t, p, ev, hp, FT, FH, a, hF⟩ := hS
  have c3 := a.obj.cell 3 rfl
  have c4 := a.obj.cell 4 rfl
  have ls := a.obj.lt
  unfold whenE
  clear a
  by_cases h1 : S.rev < rev
  · rw [if_pos h1]
    go_enter Try.func65, Try.ntmps65
    go_wp2
    go_ret
    exact ⟨rfl, rfl⟩
  · rw [if_neg h1]
    have h1' : rev ≤ S.rev := by omega
    by_cases h2 : rev = 0
    · subst h2
      go_enter Try.func65, Try.ntmps65
      go_wp2
      go_ret
      exact ⟨by simp, rfl⟩
    · have h2' : (rev == 0) = false := by simpa using h2
      by_cases h3 : rev < S.mark
      · rw [if_pos ⟨h2, h3⟩]
        go_enter Try.func65, Try.ntmps65
        go_wp2
        go_ret
        exact ⟨rfl, rfl⟩
      · rw [if_neg (fun h => h3 h.2)]
        go_enter Try.func65, Try.ntmps65
        go_wp2
        go_ret
        exact ⟨rfl, rfl⟩

theorem room_calls {TA : TreeRel} (w : World) (s : Nat) (S : St) (F : Nat → Prop) (hS : StoreAt TA w s S F) (v : Value) (hr : S.rev < top) : Calls Try.prog 73 #[.pointer (some ⟨s, 0, none⟩), v] w fun e w' => e = .returned (.bool true) ∧ Fr No w w' := by
  obtain ⟨t, p, ev, hp, FT, FH, a, hF⟩ := hS
  have c3 := a.obj.cell 3 rfl
  have ls := a.obj.lt
  have hmf : ∀ (fn : Fn) (first cap : Array Value) (w : World), (Instr.makeFunc fn first cap).run Try.prog w = .ok (.func fn first cap) w := fun _ _ _ _ => rfl
  unfold top at hr
  clear a
  go_enter Try.func73, Try.ntmps73
  go_wp2
  go_ret
  exact ⟨rfl, (Fr.refl No w).alloc _⟩
end Go.Proofs.Ythljnnjpmdgkoaa
