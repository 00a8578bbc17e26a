/- What the laws read of a table: its list, a lease, what a revocation gives, with the slices told. -/
import Derived.Test.YtlomeohcgjgpjaaSame
import Derived.Test.YtlomeohcgjgpjaaWak
namespace Go.Proofs.Ytlomeohcgjgpjaa
open Go Go.Proofs Go.RowKit
set_option maxRecDepth 100000

theorem list_at {n : Nat} (hn : n ≤ 1000) {w : World} {t : Nat} {R : List LV} {F : Nat → Prop} (h : Lea n w t R F) :
    Calls Try.prog 11 #[.pointer (some ⟨t, 0, none⟩)] w fun e w' => ∃ (a : Option Addr) (c : Nat), e = .returned (.slice a R.length c) ∧ Hid (∃ P, P.map (·.1) = R ∧ Lst w.heap.size w' (.slice a R.length c) P ∧ Fr No w w') := by
  refine (List_calls hn h).mono ?_
  rintro e w' ⟨v, P, rfl, h1, h2, h3⟩
  obtain ⟨a, c, rfl, _⟩ := h1.sl.shape
  have : P.length = R.length := by rw [← h2, List.length_map]
  rw [this] at h1 ⊢
  exact ⟨a, c, rfl, Lib.hid ⟨P, h2, h1, h3⟩⟩
theorem same_at {A B : Nat} {w : World} {u v : Value} {R : List LV} {P Q : List (LV × Value)} (hP : Lst A w u P) (hQ : Lst B w v Q) (h1 : P.map (·.1) = R) (h2 : Q.map (·.1) = R) :
    Calls Try.prog 13 #[u, v] w fun e w' => e = .returned (.bool true) ∧ Fr No w w' := same_calls w u v P Q hP.rd hQ.rd (h1.trans h2.symm)
theorem Get_some {n : Nat} (hn : n ≤ 1000) {w : World} {t : Nat} {R : List LV} {F : Nat → Prop} (h : Lea n w t R F) (id : Int) (hwf : (Lit.int .i64 id).wf = true) {x : LV} (hx : getR R id = some x) :
    Calls Try.prog 16 #[.pointer (some ⟨t, 0, none⟩), .int .i64 id] w fun e w' => ∃ (a : Option Addr) (c : Nat), e = .returned (.tuple #[lvV x (.slice a x.keys.length c), .int .i64 0]) ∧ Hid (FreshStr w w' (.slice a x.keys.length c) x.keys ∧ Fr No w w') := by
  refine (Get_calls hn h id hwf).mono ?_
  intro e w' hg
  rw [hx] at hg
  obtain ⟨kv, rfl, h1, h2⟩ := hg
  obtain ⟨a, c, rfl, _⟩ := h1.1.shape
  exact ⟨a, c, rfl, Lib.hid ⟨h1, h2⟩⟩
theorem Get_none {n : Nat} (hn : n ≤ 1000) {w : World} {t : Nat} {R : List LV} {F : Nat → Prop} (h : Lea n w t R F) (id : Int) (hwf : (Lit.int .i64 id).wf = true) (hx : getR R id = none) :
    Calls Try.prog 16 #[.pointer (some ⟨t, 0, none⟩), .int .i64 id] w fun e w' => e = .returned (.tuple #[lvV ⟨0, 0, 0, []⟩ (.slice none 0 0), .int .i64 35]) ∧ Fr No w w' := by
  refine (Get_calls hn h id hwf).mono ?_
  intro e w' hg
  rw [hx] at hg
  exact hg
theorem Revoke_some {n : Nat} (hn : n ≤ 1000) {w : World} {t : Nat} {R : List LV} {F : Nat → Prop} (h : Lea n w t R F) (id : Int) (hwf : (Lit.int .i64 id).wf = true) {x : LV} (hx : getR R id = some x) :
    Calls Try.prog 17 #[.pointer (some ⟨t, 0, none⟩), .int .i64 id] w fun e w' => ∃ (a : Option Addr) (c : Nat), e = .returned (.tuple #[.slice a x.keys.length c, .int .i64 0]) ∧
      Hid (SlF w' 9 1 strC (.slice a x.keys.length c) x.keys ∧ ∃ F', Lea n w' t (revokeR R id) F' ∧ Fr F w w' ∧ (∀ b, F' b → F b) ∧ ∀ b, (Value.slice a x.keys.length c).ownBlock = some b → F b ∧ ¬ F' b) := by
  refine (Revoke_calls hn h id hwf).mono ?_
  intro e w' hr
  obtain ⟨a, k, c, he, H⟩ := revoke_to hx hr
  obtain ⟨rfl, h1, F', h2, h3, h4, h5⟩ := H.out
  exact ⟨a, c, he, Lib.hid ⟨h1, F', h2, h3, h4, h5⟩⟩
theorem Revoke_none {n : Nat} (hn : n ≤ 1000) {w : World} {t : Nat} {R : List LV} {F : Nat → Prop} (h : Lea n w t R F) (id : Int) (hwf : (Lit.int .i64 id).wf = true) (hx : getR R id = none) :
    Calls Try.prog 17 #[.pointer (some ⟨t, 0, none⟩), .int .i64 id] w fun e w' => e = .returned (.tuple #[.slice none 0 0, .int .i64 35]) ∧ w = w' := by
  refine (Revoke_calls hn h id hwf).mono ?_
  intro e w' hr
  unfold RevTo at hr
  rw [hx] at hr
  exact hr
end Go.Proofs.Ytlomeohcgjgpjaa
