/- What LeasePlays reads of both tables: one, Get, Over, with the slices told. -/
import Derived.Test.YtlomeohcgjgpjaaRfI
namespace Go.Proofs.Ytlomeohcgjgpjaa
open Go Go.Proofs Go.RowKit
set_option maxRecDepth 100000

def getA (R : List LV) (id : Int) : LV × Int := match getR R id with
  | some x => (x, 0)
  | none => (⟨0, 0, 0, []⟩, 35)
def lvW (x : LV) (a : Option Addr) (c : Nat) : Value := .agg #[.int .i64 x.id, .int .i64 x.ticks, .int .i64 x.left, .slice a x.keys.length c]
theorem get_at {n : Nat} (hn : n ≤ 1000) {w : World} {t : Nat} {R : List LV} {F : Nat → Prop} (h : Lea n w t R F) (id : Int) (hwf : (Lit.int .i64 id).wf = true) :
    Calls Try.prog 16 #[.pointer (some ⟨t, 0, none⟩), .int .i64 id] w fun e w' => ∃ (a : Option Addr) (c : Nat), e = .returned (.tuple #[lvW (getA R id).1 a c, .int .i64 (getA R id).2]) ∧ Hid (SlF w' 9 1 strC (.slice a (getA R id).1.keys.length c) (getA R id).1.keys ∧ Fr No w w') := by
  unfold getA
  cases hg : getR R id with
  | some x =>
    refine (Get_some hn h id hwf hg).mono ?_
    rintro e w' ⟨a, c, rfl, H⟩
    exact ⟨a, c, rfl, Lib.hid ⟨H.out.1.1, H.out.2⟩⟩
  | none =>
    refine (Get_none hn h id hwf hg).mono ?_
    rintro e w' ⟨rfl, hf⟩
    exact ⟨none, 0, rfl, Lib.hid ⟨SlF.nil _ _ _ _, hf⟩⟩
theorem rget_at {w : World} {t : Nat} {v : Value} {P : List (LV × Value)} {G : Nat → Prop} (h : Rf w t v P G) (hlen : P.length ≤ 100000) {R : List LV} (hR : P.map (·.1) = R) (id : Int) :
    Calls Try.prog 24 #[.pointer (some ⟨t, 0, none⟩), .int .i64 id] w fun e w' => ∃ (a : Option Addr) (c : Nat), e = .returned (.tuple #[lvW (getA R id).1 a c, .int .i64 (getA R id).2]) ∧ Hid (SlF w' 9 1 strC (.slice a (getA R id).1.keys.length c) (getA R id).1.keys ∧ Fr No w w') := by
  refine (rget_calls h hlen id).mono ?_
  rintro e w' ⟨h1, h2⟩
  unfold rgetV at h1
  rw [hR] at h1
  unfold getA
  cases hg : getR R id with
  | some x =>
    rw [hg] at h1
    obtain ⟨p, hp, rfl, rfl⟩ := h1
    obtain ⟨a, c, hv, _⟩ := (h.keys p hp).1.shape
    have hk := (h.keys p hp).1.fr0 h2
    rw [hv] at hk
    exact ⟨a, c, by rw [hv]; rfl, Lib.hid ⟨hk, h2⟩⟩
  | none =>
    rw [hg] at h1
    obtain rfl := h1
    exact ⟨none, 0, rfl, Lib.hid ⟨SlF.nil _ _ _ _, h2⟩⟩
theorem nums_at {w w' : World} {out : List Int} {e : Ending} (h : Nums w w' out e) : ∃ (a : Option Addr) (c : Nat), e = .returned (.slice a out.length c) ∧ Hid (SlF w' 3 1 int1 (.slice a out.length c) out ∧ Fr No w w') := by
  obtain ⟨v, rfl, h1, h2, h3⟩ := h
  obtain ⟨a, c, rfl, _⟩ := h1.shape
  exact ⟨a, c, rfl, Lib.hid ⟨h1, h3⟩⟩
set_option maxHeartbeats 2000000 in
theorem one_calls (w : World) (x : LV) (a b : Option Addr) (c d : Nat) (ha : SlR w 1 strC (.slice a x.keys.length c) x.keys) (hb : SlR w 1 strC (.slice b x.keys.length d) x.keys) :
    Calls Try.prog 25 #[lvW x a c, lvW x b d] w fun e w' => e = .returned (.bool true) ∧ Fr No w w' := by
  have hT := fun W (hW : Fr No w W) => texts_calls W _ _ x.keys (ha.fr0 hW) (hb.fr0 hW)
  have HT := Lib.hid hT
  clear hT ha hb
  obtain ⟨xi, xt, xl, xk⟩ := x
  dsimp only at HT
  unfold lvW
  dsimp only
  generalize xk.length = n at *
  have hA : (w.alloc (.cells #[.int .i64 xi, .int .i64 xt, .int .i64 xl, .slice a n c] 36)).heap[w.heap.size]? = some (.cells #[.int .i64 xi, .int .i64 xt, .int .i64 xl, .slice a n c] 36 (0, 0)) := alloc_at _ _ _ rfl
  have hf1 : Fr No (w.alloc (.cells #[.int .i64 xi, .int .i64 xt, .int .i64 xl, .slice a n c] 36)) ((w.alloc (.cells #[.int .i64 xi, .int .i64 xt, .int .i64 xl, .slice a n c] 36)).alloc (.cells #[.int .i64 xi, .int .i64 xt, .int .i64 xl, .slice b n d] 57)) := (Fr.refl No _).alloc _
  have hf2 : Fr No w ((w.alloc (.cells #[.int .i64 xi, .int .i64 xt, .int .i64 xl, .slice a n c] 36)).alloc (.cells #[.int .i64 xi, .int .i64 xt, .int .i64 xl, .slice b n d] 57)) := ((Fr.refl No w).alloc _).alloc _
  have hA2 := hf1.heap hA fun h => h
  have hB : ((w.alloc (.cells #[.int .i64 xi, .int .i64 xt, .int .i64 xl, .slice a n c] 36)).alloc (.cells #[.int .i64 xi, .int .i64 xt, .int .i64 xl, .slice b n d] 57)).heap[w.heap.size + 1]? = some (.cells #[.int .i64 xi, .int .i64 xt, .int .i64 xl, .slice b n d] 57 (0, 0)) := alloc_at _ _ _ (by simp)
  have HF2 := Lib.hid hf2
  clear hA hf1 hf2
  go_enter Try.func25, Try.ntmps25
  go_upto_region 1 with fail
  generalize (w.alloc (.cells #[.int .i64 xi, .int .i64 xt, .int .i64 xl, .slice a n c] 36)).alloc (.cells #[.int .i64 xi, .int .i64 xt, .int .i64 xl, .slice b n d] 57) = W at *
  obtain ⟨x0, x1, x2, x3⟩ := cells4 hA2
  obtain ⟨y0, y1, y2, y3⟩ := cells4 hB
  have lx := heap_lt hA2
  have ly := heap_lt hB
  clear hA2 hB
  go_wp2_with (go_at_call 18; (with_reducible refine (HT.out _ HF2.out).mono ?_); rintro e w3 ⟨rfl, hf3⟩)
  go_ret
  exact ⟨rfl, HF2.out.trans0 hf3⟩
end Go.Proofs.Ytlomeohcgjgpjaa
