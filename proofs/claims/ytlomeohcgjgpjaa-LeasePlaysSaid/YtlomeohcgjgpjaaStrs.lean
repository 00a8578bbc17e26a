/- slices.Clone, IndexFunc and DeleteFunc over keys, as the table of leases uses them. The condition: lists are not too long. -/
import Derived.Test.YtlomeohcgjgpjaaLeaO
import Derived.Test.YtlomeohcgjgpjaaClear
import Derived.Lib.SliceRun
namespace Go.Proofs.Ytlomeohcgjgpjaa
open Go Go.Proofs Go.RowKit
set_option maxRecDepth 100000

theorem info9 : (Try.prog.info? 9).map (fun i => (i.zero, i.size, i.bytes)) = some (some (.string ByteArray.empty), 1, 16) := by kernel_rfl
theorem zero9 (w : World) : (zeroValue 9).run Try.prog w = .ok (.string ByteArray.empty) w := by kernel_rfl
theorem strC_one {L : List ByteArray} {u : Value} (h : u ∈ L.flatMap strC) : u.oneCell' = true := by
  obtain ⟨x, _, hx⟩ := List.mem_flatMap.1 h
  simp only [strC, List.mem_cons, List.not_mem_nil, or_false] at hx
  rw [hx]; rfl
def FreshStr (w w' : World) (v : Value) (L : List ByteArray) : Prop := SlF w' 9 1 strC v L ∧ ∀ b, v.ownBlock = some b → w.heap.size ≤ b
theorem owns_sl {α : Type} {f : α → List Value} {w : World} {base e sz : Nat} {v : Value} {L : List α} (h : w.ownsRow base e sz v L.length (L.flatMap f)) : SlF w e sz f v L ∧ ∀ b, v.ownBlock = some b → base ≤ b := by
  obtain ⟨h1, h2⟩ := h
  rcases h2 with ⟨rfl, h3⟩ | ⟨g, cap, cur, rfl, h3, h4, h5, h6, h7, h8⟩
  · exact ⟨⟨h1, .inl ⟨rfl, h3⟩⟩, by simp [Value.ownBlock]⟩
  · exact ⟨⟨h1, .inr ⟨g, 0, cap, cur, rfl, h4, h5, h6, by omega, by simpa using h8⟩⟩, by simp [Value.ownBlock]; omega⟩
set_option maxHeartbeats 2000000 in
theorem clone_calls (w : World) (v : Value) (L : List ByteArray) (hv : SlF w 9 1 strC v L) (hl : L.length ≤ 1099511627) :
    Calls Try.prog 46 #[v] w fun e w' => ∃ v', e = .returned v' ∧ FreshStr w w' v' L ∧ Fr No w w' := by
  by_cases hnil : v = .slice none 0 0
  · subst hnil
    have hL : L = [] := by
      obtain ⟨a, cap, h1, h2, _⟩ := hv.shape
      simp only [Value.slice.injEq] at h1
      exact List.eq_nil_of_length_eq_zero h1.2.1.symm
    subst hL
    have heq := fun w => Go.Lib.run_eql_slice_nil (P := Try.prog) w 30 9 none 0 0 0 0 Try.underlying30
    go_enter Try.func46, Try.ntmps46
    go_wp2
    go_ret
    exact ⟨_, rfl, ⟨SlF.nil _ _ _ _, by simp [Value.ownBlock]⟩, Fr.refl _ _⟩
  · obtain ⟨a, vcap, rfl, hc1, hc2, ha⟩ := hv.shape
    obtain ⟨gb, go, rfl⟩ : ∃ gb go, a = some ⟨gb, go, none⟩ := by
      rcases hv.2 with ⟨h, _⟩ | ⟨g, o, cap, cur, h, _⟩
      · exact absurd h hnil
      · cases h; exact ⟨g, o, rfl⟩
    have heq := fun w => Go.Lib.run_eql_slice_nil (P := Try.prog) w 30 9 (some ⟨gb, go, none⟩) L.length vcap 0 0 Try.underlying30
    obtain ⟨i0, hi0, hz0, hz1, hz2⟩ := info_parts info9
    have hnews : ∀ j u, (L.flatMap strC)[j]? = some u → (w.alloc (Obj.cells #[] 9)).cell? ((⟨gb, go, none⟩ : Addr).add j) = some u := by
      intro j u hu
      have h1 := Sl.cell (hv.alloc (Obj.cells #[] 9)) j hu
      have : (⟨gb, go, none⟩ : Addr).add j = ⟨gb, go + j, none⟩ := by unfold Addr.add; split <;> simp_all
      rw [this]; exact h1
    have HN := Lib.hid hnews
    have HW := Lib.hid (World.ownsRow_made w #[] 0 (Nat.le_refl _) (Nat.zero_le _) rfl : (w.alloc (Obj.cells #[] 9)).ownsRow w.heap.size 9 1 (.slice (some ⟨w.heap.size, 0, none⟩) 0 0) 0 [])
    clear hnews hv ha hnil
    go_enter Try.func46, Try.ntmps46
    go_wp2_with (at_builtin; refine wpList_append_own _ rfl _ _ 30 rfl w.heap.size 9 i0 _ 1 16 Try.underlying30 hi0 hz0 hz1 hz2 rfl (by decide) _ 0 [] rfl HW.out ⟨gb, go, none⟩ L.length vcap (L.flatMap strC) rfl (flat_length strC_length L) HN.out (fun u hu => strC_one hu) (by unfold maxLen; omega) (by omega) (by simp) ?_)
    intro v' w1 hown hgrow hnil
    go_wp2
    go_ret
    obtain ⟨h1, h2⟩ := owns_sl hown
    have hb := ((Below.refl _ w).alloc (Nat.le_refl _) (Obj.cells #[] 9)).grown hgrow (by simp) (by intro k hk; simp [Value.ownBlock] at hk; omega)
    exact ⟨v', rfl, ⟨h1, h2⟩, Fr.of_below hb⟩
end Go.Proofs.Ytlomeohcgjgpjaa
