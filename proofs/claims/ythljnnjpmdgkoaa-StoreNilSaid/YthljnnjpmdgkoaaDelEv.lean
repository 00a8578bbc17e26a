/- slices.Clone, IndexFunc and DeleteFunc over events, as the store's Compact uses them. The condition: lists are not too long. -/
import Derived.Test.YthljnnjpmdgkoaaClear
import Derived.Test.YthljnnjpmdgkoaaDo
import Derived.Lib.SliceRun
namespace Go.Proofs.Ythljnnjpmdgkoaa
open Go Go.Proofs Go.RowKit
set_option maxRecDepth 100000

/-- A whole event laid down in a list. -/
def layEv (w : World) (g o : Nat) (y : Ev) : World := (((((((((((((w.setCell ⟨g, o, none⟩ (.int .i64 y.kind)).setCell ⟨g, o + 1, none⟩ (.string y.kv.key)).setCell ⟨g, o + 2, none⟩ (.string y.kv.value)).setCell ⟨g, o + 3, none⟩ (.int .i64 y.kv.create)).setCell ⟨g, o + 4, none⟩ (.int .i64 y.kv.mod)).setCell ⟨g, o + 5, none⟩ (.int .i64 y.kv.version)).setCell ⟨g, o + 6, none⟩ (.int .i64 y.kv.lease)).setCell ⟨g, o + 7, none⟩ (.string y.prev.key)).setCell ⟨g, o + 8, none⟩ (.string y.prev.value)).setCell ⟨g, o + 9, none⟩ (.int .i64 y.prev.create)).setCell ⟨g, o + 10, none⟩ (.int .i64 y.prev.mod)).setCell ⟨g, o + 11, none⟩ (.int .i64 y.prev.version)).setCell ⟨g, o + 12, none⟩ (.int .i64 y.prev.lease))
theorem layEv_sl {w : World} {g o cap : Nat} {L : List Ev} (h : SlF w 73 13 evC (.slice (some ⟨g, o, none⟩) L.length cap) L) (i : Nat) {x : Ev} (hx : L[i]? = some x) (y : Ev) :
    SlF (layEv w g (o + i * 13) y) 73 13 evC (.slice (some ⟨g, o, none⟩) L.length cap) (L.set i y) := by
  have hi := (List.getElem?_eq_some_iff.1 hx).1
  have step : ∀ {w : World} {M : List Ev} {z : Ev} (j : Nat) (u : Value) (z' : Ev), j < 13 → M.length = L.length → SlF w 73 13 evC (.slice (some ⟨g, o, none⟩) L.length cap) M → M[i]? = some z → evC z' = (evC z).set j u →
      SlF (w.setCell ⟨g, o + i * 13 + j, none⟩ u) 73 13 evC (.slice (some ⟨g, o, none⟩) L.length cap) (M.set i z') := by
    intro w M z j u z' hj hM hs hz he
    rw [← hM] at hs ⊢
    exact hs.set evC_length i j hj z z' u hz he
  have s0 := step (z := (⟨x.kind, ⟨x.kv.key, x.kv.value, x.kv.create, x.kv.mod, x.kv.version, x.kv.lease⟩, ⟨x.prev.key, x.prev.value, x.prev.create, x.prev.mod, x.prev.version, x.prev.lease⟩⟩ : Ev)) 0 (.int .i64 y.kind) (⟨y.kind, ⟨x.kv.key, x.kv.value, x.kv.create, x.kv.mod, x.kv.version, x.kv.lease⟩, ⟨x.prev.key, x.prev.value, x.prev.create, x.prev.mod, x.prev.version, x.prev.lease⟩⟩ : Ev) (by omega) rfl h hx rfl
  have s1 := step (z := (⟨y.kind, ⟨x.kv.key, x.kv.value, x.kv.create, x.kv.mod, x.kv.version, x.kv.lease⟩, ⟨x.prev.key, x.prev.value, x.prev.create, x.prev.mod, x.prev.version, x.prev.lease⟩⟩ : Ev)) 1 (.string y.kv.key) (⟨y.kind, ⟨y.kv.key, x.kv.value, x.kv.create, x.kv.mod, x.kv.version, x.kv.lease⟩, ⟨x.prev.key, x.prev.value, x.prev.create, x.prev.mod, x.prev.version, x.prev.lease⟩⟩ : Ev) (by omega) (by simp) s0 (by simp [hi]) rfl
  have s2 := step (z := (⟨y.kind, ⟨y.kv.key, x.kv.value, x.kv.create, x.kv.mod, x.kv.version, x.kv.lease⟩, ⟨x.prev.key, x.prev.value, x.prev.create, x.prev.mod, x.prev.version, x.prev.lease⟩⟩ : Ev)) 2 (.string y.kv.value) (⟨y.kind, ⟨y.kv.key, y.kv.value, x.kv.create, x.kv.mod, x.kv.version, x.kv.lease⟩, ⟨x.prev.key, x.prev.value, x.prev.create, x.prev.mod, x.prev.version, x.prev.lease⟩⟩ : Ev) (by omega) (by simp) s1 (by simp [hi]) rfl
  have s3 := step (z := (⟨y.kind, ⟨y.kv.key, y.kv.value, x.kv.create, x.kv.mod, x.kv.version, x.kv.lease⟩, ⟨x.prev.key, x.prev.value, x.prev.create, x.prev.mod, x.prev.version, x.prev.lease⟩⟩ : Ev)) 3 (.int .i64 y.kv.create) (⟨y.kind, ⟨y.kv.key, y.kv.value, y.kv.create, x.kv.mod, x.kv.version, x.kv.lease⟩, ⟨x.prev.key, x.prev.value, x.prev.create, x.prev.mod, x.prev.version, x.prev.lease⟩⟩ : Ev) (by omega) (by simp) s2 (by simp [hi]) rfl
  have s4 := step (z := (⟨y.kind, ⟨y.kv.key, y.kv.value, y.kv.create, x.kv.mod, x.kv.version, x.kv.lease⟩, ⟨x.prev.key, x.prev.value, x.prev.create, x.prev.mod, x.prev.version, x.prev.lease⟩⟩ : Ev)) 4 (.int .i64 y.kv.mod) (⟨y.kind, ⟨y.kv.key, y.kv.value, y.kv.create, y.kv.mod, x.kv.version, x.kv.lease⟩, ⟨x.prev.key, x.prev.value, x.prev.create, x.prev.mod, x.prev.version, x.prev.lease⟩⟩ : Ev) (by omega) (by simp) s3 (by simp [hi]) rfl
  have s5 := step (z := (⟨y.kind, ⟨y.kv.key, y.kv.value, y.kv.create, y.kv.mod, x.kv.version, x.kv.lease⟩, ⟨x.prev.key, x.prev.value, x.prev.create, x.prev.mod, x.prev.version, x.prev.lease⟩⟩ : Ev)) 5 (.int .i64 y.kv.version) (⟨y.kind, ⟨y.kv.key, y.kv.value, y.kv.create, y.kv.mod, y.kv.version, x.kv.lease⟩, ⟨x.prev.key, x.prev.value, x.prev.create, x.prev.mod, x.prev.version, x.prev.lease⟩⟩ : Ev) (by omega) (by simp) s4 (by simp [hi]) rfl
  have s6 := step (z := (⟨y.kind, ⟨y.kv.key, y.kv.value, y.kv.create, y.kv.mod, y.kv.version, x.kv.lease⟩, ⟨x.prev.key, x.prev.value, x.prev.create, x.prev.mod, x.prev.version, x.prev.lease⟩⟩ : Ev)) 6 (.int .i64 y.kv.lease) (⟨y.kind, ⟨y.kv.key, y.kv.value, y.kv.create, y.kv.mod, y.kv.version, y.kv.lease⟩, ⟨x.prev.key, x.prev.value, x.prev.create, x.prev.mod, x.prev.version, x.prev.lease⟩⟩ : Ev) (by omega) (by simp) s5 (by simp [hi]) rfl
  have s7 := step (z := (⟨y.kind, ⟨y.kv.key, y.kv.value, y.kv.create, y.kv.mod, y.kv.version, y.kv.lease⟩, ⟨x.prev.key, x.prev.value, x.prev.create, x.prev.mod, x.prev.version, x.prev.lease⟩⟩ : Ev)) 7 (.string y.prev.key) (⟨y.kind, ⟨y.kv.key, y.kv.value, y.kv.create, y.kv.mod, y.kv.version, y.kv.lease⟩, ⟨y.prev.key, x.prev.value, x.prev.create, x.prev.mod, x.prev.version, x.prev.lease⟩⟩ : Ev) (by omega) (by simp) s6 (by simp [hi]) rfl
  have s8 := step (z := (⟨y.kind, ⟨y.kv.key, y.kv.value, y.kv.create, y.kv.mod, y.kv.version, y.kv.lease⟩, ⟨y.prev.key, x.prev.value, x.prev.create, x.prev.mod, x.prev.version, x.prev.lease⟩⟩ : Ev)) 8 (.string y.prev.value) (⟨y.kind, ⟨y.kv.key, y.kv.value, y.kv.create, y.kv.mod, y.kv.version, y.kv.lease⟩, ⟨y.prev.key, y.prev.value, x.prev.create, x.prev.mod, x.prev.version, x.prev.lease⟩⟩ : Ev) (by omega) (by simp) s7 (by simp [hi]) rfl
  have s9 := step (z := (⟨y.kind, ⟨y.kv.key, y.kv.value, y.kv.create, y.kv.mod, y.kv.version, y.kv.lease⟩, ⟨y.prev.key, y.prev.value, x.prev.create, x.prev.mod, x.prev.version, x.prev.lease⟩⟩ : Ev)) 9 (.int .i64 y.prev.create) (⟨y.kind, ⟨y.kv.key, y.kv.value, y.kv.create, y.kv.mod, y.kv.version, y.kv.lease⟩, ⟨y.prev.key, y.prev.value, y.prev.create, x.prev.mod, x.prev.version, x.prev.lease⟩⟩ : Ev) (by omega) (by simp) s8 (by simp [hi]) rfl
  have s10 := step (z := (⟨y.kind, ⟨y.kv.key, y.kv.value, y.kv.create, y.kv.mod, y.kv.version, y.kv.lease⟩, ⟨y.prev.key, y.prev.value, y.prev.create, x.prev.mod, x.prev.version, x.prev.lease⟩⟩ : Ev)) 10 (.int .i64 y.prev.mod) (⟨y.kind, ⟨y.kv.key, y.kv.value, y.kv.create, y.kv.mod, y.kv.version, y.kv.lease⟩, ⟨y.prev.key, y.prev.value, y.prev.create, y.prev.mod, x.prev.version, x.prev.lease⟩⟩ : Ev) (by omega) (by simp) s9 (by simp [hi]) rfl
  have s11 := step (z := (⟨y.kind, ⟨y.kv.key, y.kv.value, y.kv.create, y.kv.mod, y.kv.version, y.kv.lease⟩, ⟨y.prev.key, y.prev.value, y.prev.create, y.prev.mod, x.prev.version, x.prev.lease⟩⟩ : Ev)) 11 (.int .i64 y.prev.version) (⟨y.kind, ⟨y.kv.key, y.kv.value, y.kv.create, y.kv.mod, y.kv.version, y.kv.lease⟩, ⟨y.prev.key, y.prev.value, y.prev.create, y.prev.mod, y.prev.version, x.prev.lease⟩⟩ : Ev) (by omega) (by simp) s10 (by simp [hi]) rfl
  have s12 := step (z := (⟨y.kind, ⟨y.kv.key, y.kv.value, y.kv.create, y.kv.mod, y.kv.version, y.kv.lease⟩, ⟨y.prev.key, y.prev.value, y.prev.create, y.prev.mod, y.prev.version, x.prev.lease⟩⟩ : Ev)) 12 (.int .i64 y.prev.lease) (⟨y.kind, ⟨y.kv.key, y.kv.value, y.kv.create, y.kv.mod, y.kv.version, y.kv.lease⟩, ⟨y.prev.key, y.prev.value, y.prev.create, y.prev.mod, y.prev.version, y.prev.lease⟩⟩ : Ev) (by omega) (by simp) s11 (by simp [hi]) rfl
  simpa [layEv, List.set_set] using s12
theorem layEv_fr {S : Nat → Prop} {a w : World} (h : Fr S a w) (g o : Nat) (y : Ev) (hg : S g) : Fr S a (layEv w g o y) := by
  unfold layEv
  exact ((((((((((((h.setCell (.inl hg) _).setCell (.inl hg) _).setCell (.inl hg) _).setCell (.inl hg) _).setCell (.inl hg) _).setCell (.inl hg) _).setCell (.inl hg) _).setCell (.inl hg) _).setCell (.inl hg) _).setCell (.inl hg) _).setCell (.inl hg) _).setCell (.inl hg) _).setCell (.inl hg) _

theorem evC_one {L : List Ev} {u : Value} (h : u ∈ L.flatMap evC) : u.oneCell' = true := by
  obtain ⟨x, _, hx⟩ := List.mem_flatMap.1 h
  simp only [evC, kvC, List.mem_cons, List.mem_append, List.not_mem_nil, or_false] at hx
  rcases hx with h | (h | h | h | h | h | h) | (h | h | h | h | h | h) <;> rw [h] <;> rfl

set_option maxHeartbeats 2000000 in
theorem cloneEv_calls (w : World) (v : Value) (L : List Ev) (hv : SlF w 73 13 evC v L) (hp : 0 < L.length) (hl : L.length ≤ 1099511627) :
    Calls Try.prog 82 #[v] w fun e w' => ∃ g o cap, e = .returned (.slice (some ⟨g, o, none⟩) L.length cap) ∧ SlF w' 73 13 evC (.slice (some ⟨g, o, none⟩) L.length cap) L ∧ Fr No w w' ∧ w.heap.size ≤ g := by
  obtain ⟨a, vcap, rfl, hc1, hc2, ha⟩ := hv.shape
  obtain ⟨gb, go, rfl⟩ := ha hp
  obtain ⟨i0, hi0, hz0, hz1, hz2⟩ := info_parts info73
  have hne : 0 < (L.flatMap evC).length := by rw [flat_length evC_length]; omega
  have hnews : ∀ j u, (L.flatMap evC)[j]? = some u → (w.alloc (Obj.cells #[] 73)).cell? ((⟨gb, go, none⟩ : Addr).add j) = some u := by
    intro j u hu
    have := (hv.alloc (Obj.cells #[] 73)).1
    have h1 := Sl.cell (hv.alloc (Obj.cells #[] 73)) j hu
    have : (⟨gb, go, none⟩ : Addr).add j = ⟨gb, go + j, none⟩ := by unfold Addr.add; split <;> simp_all
    rw [this]; exact h1
  have hsl0 : Sl (w.alloc (Obj.cells #[] 73)) 73 13 (.slice (some ⟨w.heap.size, 0, none⟩) 0 0) 0 [] := ⟨by simp, .inr ⟨w.heap.size, 0, 0, #[], rfl, alloc_at _ _ _ rfl, by omega, by decide, by simp, by simp⟩⟩
  have HN := Lib.hid hnews
  have HS0 := Lib.hid hsl0
  have HV := Lib.hid hv
  have heq := fun w => Go.Lib.run_eql_slice_nil (P := Try.prog) w 34 73 (some ⟨gb, go, none⟩) L.length vcap 0 0 Try.underlying34
  clear hnews hsl0 hv ha
  go_enter Try.func82, Try.ntmps82
  go_wp2_with (at_builtin; refine wpList_append_sl rfl _ _ 34 rfl 73 i0 _ 13 136 Try.underlying34 hi0 hz0 hz1 hz2 rfl (by decide) _ 0 [] rfl HS0.out ⟨gb, go, none⟩ L.length vcap (L.flatMap evC) rfl (flat_length evC_length L) hp HN.out (fun u hu => evC_one hu) ?c1 ?c2 ?_)
  case c1 => unfold maxLen; omega
  case c2 => omega
  intro g o cap w' hs hg hb hlt
  go_wp2
  go_ret
  have hf : Fr No w w' := (((Fr.refl No w).alloc (Obj.cells #[] 73)).mono (T := fun b => b = w.heap.size) fun _ _ h => h.elim).grown hg (fun k hk => .inr (by simp [Value.ownBlock] at hk; omega)) |>.trans (Fr.refl No w') (fun _ _ h => h.elim) |> fun h => ⟨h.os, h.tape, h.output, h.size, fun j hj hn => h.block j hj (fun e => by have e' : j = w.heap.size := e; omega)⟩
  refine ⟨g, o, cap, rfl, hs, hf, ?_⟩
  rcases hb with h | h
  · simp [Value.ownBlock] at h; omega
  · have : g = w.heap.size + 1 := by simpa using h
    omega

theorem old_calls (w : World) (x : Ev) (rb : Nat) (rev : Int) (hb : w.cell? ⟨rb, 0, none⟩ = some (.int .i64 rev)) : Calls Try.prog 84 #[evV x, .pointer (some ⟨rb, 0, none⟩)] w fun e w' => e = .returned (.bool (decide (x.kv.mod < rev))) ∧ Fr No w w' := by
  obtain ⟨x0, ⟨x1, x2, x3, x4, x5, x6⟩, ⟨x7, x8, x9, x10, x11, x12⟩⟩ := x
  unfold evV
  dsimp only
  have hlt := World.block_lt_of_cell? _ _ hb
  go_enter Try.func84, Try.ntmps84
  go_wp2
  go_ret
  exact ⟨rfl, (Fr.refl No w).alloc _⟩

def oldB (rev : Int) (x : Ev) : Bool := decide (x.kv.mod < rev)
def idxEv (P : Ev → Bool) (l : List Ev) : Int := if l.findIdx P = l.length then -1 else (l.findIdx P : Int)

set_option maxHeartbeats 2000000 in
theorem indexEv_calls (w : World) (v : Value) (l : List Ev) (rb : Nat) (rev : Int) (hb : w.cell? ⟨rb, 0, none⟩ = some (.int .i64 rev)) (hv : SlF w 73 13 evC v l) (hl : l.length ≤ 1099511627) :
    Calls Try.prog 115 #[v, .func (.func 84) #[] #[.pointer (some ⟨rb, 0, none⟩)]] w fun e w' => e = .returned (.int .i64 (idxEv (oldB rev) l)) ∧ Fr No w w' := by
  obtain ⟨a, cap, rfl, hc1, hc2, ha⟩ := hv.shape
  have HV := Lib.hid hv; clear hv
  have HA := Lib.hid ha; clear ha
  have HB := Lib.hid hb; clear hb
  go_enter Try.func115, Try.ntmps115
  go_wp2
  go_loopg [8] l.length (fun g s8 wr => ∃ i : Nat, s8 = .int .i64 i ∧ i + g = l.length ∧ Hid (∀ j, j < i → ∀ p, l[j]? = some p → oldB rev p = false) ∧ Hid (Fr No w wr))
  case atStart => exact ⟨0, rfl, by simp, Lib.hid (by simp), Lib.hid (Fr.refl No w)⟩
  case round =>
    obtain ⟨i, rfl, hi, HJ, HF⟩ := hrel
    cases gk with
    | zero =>
      have hil : ¬ (i : Int) < (l.length : Int) := by omega
      go_wp2
      go_ret
      refine ⟨?_, HF.out⟩
      have hu : l.findIdx (oldB rev) = l.length := by
        rw [List.findIdx_eq_length]
        intro x hx
        obtain ⟨j, hj, rfl⟩ := List.getElem_of_mem hx
        exact HJ.out j (by omega) _ (List.getElem?_eq_getElem hj)
      unfold idxEv
      rw [if_pos hu]
      rfl
    | succ g =>
      obtain ⟨gb, go, rfl⟩ := HA.out (by omega)
      obtain ⟨p, hx⟩ : ∃ p, l[i]? = some p := ⟨_, List.getElem?_eq_getElem (by omega)⟩
      have hvr := HV.out.fr0 HF.out
      have x0 := hvr.cell0 evC_length i hx rfl
      have x1 := hvr.cell evC_length i 1 hx rfl
      have x2 := hvr.cell evC_length i 2 hx rfl
      have x3 := hvr.cell evC_length i 3 hx rfl
      have x4 := hvr.cell evC_length i 4 hx rfl
      have x5 := hvr.cell evC_length i 5 hx rfl
      have x6 := hvr.cell evC_length i 6 hx rfl
      have x7 := hvr.cell evC_length i 7 hx rfl
      have x8 := hvr.cell evC_length i 8 hx rfl
      have x9 := hvr.cell evC_length i 9 hx rfl
      have x10 := hvr.cell evC_length i 10 hx rfl
      have x11 := hvr.cell evC_length i 11 hx rfl
      have x12 := hvr.cell evC_length i 12 hx rfl
      have hil : (i : Int) < (l.length : Int) := by omega
      have hcl := old_calls wr p rb rev (HF.out.cell0 HB.out)
      have hob : decide (p.kv.mod < rev) = oldB rev p := rfl
      rw [hob] at hcl
      unfold evV at hcl
      have Hx := Lib.hid hx
      clear hx hvr hob
      generalize hp : oldB rev p = q at *
      have Hp := Lib.hid hp
      clear hp
      cases q
      · go_wp2_with (go_at_call 84; refine hcl.mono ?_; rintro e w1 ⟨rfl, hf⟩)
        go_roundg g
        case rel => exact ⟨i + 1, by go_num, by omega, Lib.hid (fun j hj q hq => by
          by_cases hji : j = i
          · subst hji; rw [Hx.out] at hq; cases hq; exact Hp.out
          · exact HJ.out j (by omega) q hq), Lib.hid (HF.out.trans0 hf)⟩
        case measure => omega
      · go_wp2_with (go_at_call 84; refine hcl.mono ?_; rintro e w1 ⟨rfl, hf⟩)
        go_ret
        refine ⟨?_, HF.out.trans0 hf⟩
        have hu : l.findIdx (oldB rev) = i := by
          have hil' : i < l.length := by omega
          rw [List.findIdx_eq hil']
          have hgi : l[i] = p := (List.getElem?_eq_some_iff.1 Hx.out).2
          refine ⟨by rw [hgi]; exact Hp.out, fun j hj => ?_⟩
          exact HJ.out j hj _ (List.getElem?_eq_getElem (by omega))
        unfold idxEv
        rw [hu, if_neg (by omega)]
        rfl
end Go.Proofs.Ythljnnjpmdgkoaa
