/- The package index, at a tree of one node: spot, Get, Set, Len, New. The condition: at most nine keys. -/
import Derived.Test.YthljnnjpmdgkoaaProg
import Derived.Test.YthljnnjpmdgkoaaKeys
import Derived.Outline
namespace Go.Proofs.Ythljnnjpmdgkoaa
open Go Go.Proofs Go.RowKit
set_option maxRecDepth 100000

def pairC (p : ByteArray × Int) : List Value := [.string p.1, .int .i64 p.2]
theorem pairC_length (p : ByteArray × Int) : (pairC p).length = 2 := rfl
def nodeC (p : Value × Value) : List Value := [p.1, p.2]
theorem nodeC_length (p : Value × Value) : (nodeC p).length = 2 := rfl

def Before (T : Pairs) (key : ByteArray) (i : Nat) : Prop := ∀ j : Nat, j < i → ∀ p, T[j]? = some p → klt p.1 key = true

theorem spotOf_at {T : Pairs} {key : ByteArray} {i : Nat} (h : Before T key i) (hi : i = T.length ∨ ∃ p, T[i]? = some p ∧ klt p.1 key = false) : spotOf T key = i := by
  unfold spotOf
  have hlen : ∀ j, j < i → j < T.length → (!klt (T[j]?.getD default).1 key) = false := by
    intro j hj hjl
    have := h j hj _ (List.getElem?_eq_getElem hjl)
    simp [hjl, this]
  rcases hi with rfl | ⟨p, hp, hk⟩
  · rw [List.findIdx_eq_length]
    intro x hx
    obtain ⟨j, hj, rfl⟩ := List.getElem_of_mem hx
    have := h j hj _ (List.getElem?_eq_getElem hj)
    simp [this]
  · have hil := (List.getElem?_eq_some_iff.1 hp).1
    rw [List.findIdx_eq hil]
    have hp' := (List.getElem?_eq_some_iff.1 hp).2
    refine ⟨by rw [hp']; simp [hk], fun j hj => ?_⟩
    have := h j hj _ (List.getElem?_eq_getElem (by omega))
    simp [this]

def spotTuple (T : Pairs) (key : ByteArray) : Value := .tuple #[.int .i64 (spotOf T key), .bool (hitOf T key)]

/-- 'spot': the first place in a node whose key is not ahead, and whether it is the key. -/
theorem spot_calls (w : World) (t at_ : Nat) (nv : Value) (pv kv : Value) (N : List (Value × Value)) (T : Pairs) (key : ByteArray)
    (ht : w.cell? ⟨t, 0, none⟩ = some nv) (hN : SlF w 198 2 nodeC nv N) (hat : N[at_]? = some (pv, kv)) (hn : N.length ≤ 1099511627776)
    (hT : SlF w 127 2 pairC pv T) (hl : T.length ≤ 1099511627776) :
    Calls Try.prog 130 #[.pointer (some ⟨t, 0, none⟩), .int .i64 at_, .string key] w fun e w' => e = .returned (spotTuple T key) ∧ w = w' := by
  have hlt := (List.getElem?_eq_some_iff.1 hat).1
  obtain ⟨na, ncap, rfl, hc1, hc2, hna⟩ := hN.shape
  obtain ⟨nb, no, rfl⟩ := hna (by omega)
  obtain ⟨pa, pcap, rfl, hc3, hc4, hpa⟩ := hT.shape
  have hnode := hN.cell0 nodeC_length at_ hat rfl
  have hlt' : (at_ : Int) < (N.length : Int) := by omega
  have HT := Lib.hid hT
  have HA := Lib.hid hpa
  clear hN hat hna hT hpa
  go_enter Try.func130, Try.ntmps130
  go_wp2
  go_step3
  go_wp2
  go_step3
  go_wp2
  go_loopg [8, 9] T.length (fun g s8 _ wr => ∃ i : Nat, s8 = .int .i64 i ∧ i + g = T.length ∧ Hid (Before T key i) ∧ w = wr)
  case atStart => exact ⟨0, rfl, by simp, Lib.hid (fun j hj => by omega), rfl⟩
  case round =>
    obtain ⟨i, rfl, hi, HB, rfl⟩ := hrel
    cases gk with
    | zero =>
      have hil : ((i : Int) == (T.length : Int)) = true := by simp; omega
      have hsp : spotOf T key = i := spotOf_at HB.out (.inl (by omega))
      have hht : hitOf T key = false := by unfold hitOf; rw [hsp, List.getElem?_eq_none (by omega)]
      have HS := Lib.hid hsp; have HH := Lib.hid hht
      clear hsp hht
      go_wp2
      rw [Exit.noGoto_ret]
      go_ret2
      exact ⟨by unfold spotTuple; rw [HS.out, HH.out]; rfl, rfl⟩
    | succ g =>
      obtain ⟨pb, po, rfl⟩ := HA.out (by omega)
      obtain ⟨p, hp⟩ : ∃ p, T[i]? = some p := ⟨_, List.getElem?_eq_getElem (by omega)⟩
      have hcell := HT.out.cell0 pairC_length i hp rfl
      have hil : ((i : Int) == (T.length : Int)) = false := by simp; omega
      have hil2 : (i : Int) < (T.length : Int) := by omega
      have HP := Lib.hid hp; clear hp
      by_cases h1 : klt p.1 key = true
      · have h2 := klt_ne h1
        have HK := Lib.hid h1
        unfold klt at h1
        unfold keq at h2
        go_wp2
        go_roundg g
        case rel => exact ⟨i + 1, by go_num, by omega, Lib.hid (fun j hj q hq => by
          by_cases hji : j = i
          · subst hji; rw [HP.out] at hq; cases hq; exact HK.out
          · exact HB.out j (by omega) q hq), rfl⟩
        case measure => omega
      · simp only [Bool.not_eq_true] at h1
        have hsp : spotOf T key = i := spotOf_at HB.out (.inr ⟨p, HP.out, h1⟩)
        have hht : hitOf T key = keq p.1 key := by unfold hitOf; rw [hsp, HP.out]
        have HS := Lib.hid hsp
        clear hsp
        by_cases h2 : keq p.1 key = true
        · rw [h2] at hht
          have HH := Lib.hid hht; clear hht
          unfold klt at h1
          unfold keq at h2
          go_wp2
          rw [Exit.noGoto_ret]
          go_ret2
          exact ⟨by unfold spotTuple; rw [HS.out, HH.out]; rfl, rfl⟩
        · simp only [Bool.not_eq_true] at h2
          rw [h2] at hht
          have HH := Lib.hid hht; clear hht
          unfold klt at h1
          unfold keq at h2
          go_wp2
          rw [Exit.noGoto_ret]
          go_ret2
          exact ⟨by unfold spotTuple; rw [HS.out, HH.out]; rfl, rfl⟩

/-- A tree of one node. -/
structure TreeS (w : World) (t : Nat) (nv pv : Value) (T : Pairs) : Prop where
  obj : Has w t [nv, .slice none 0 0, .int .i64 0, .int .i64 T.length]
  nodes : SlF w 198 2 nodeC nv [(pv, .slice none 0 0)]
  pairs : SlF w 127 2 pairC pv T
  d1 : nv.ownBlock ≠ some t
  d2 : pv.ownBlock ≠ some t
  d3 : ∀ b, pv.ownBlock = some b → nv.ownBlock ≠ some b

def TreeAt1 (w : World) (t : Nat) (T : Pairs) (F : Nat → Prop) : Prop :=
  ∃ nv pv, TreeS w t nv pv T ∧ Sorted T ∧ T.length ≤ 9 ∧ ∀ b, F b ↔ (b = t ∨ nv.ownBlock = some b ∨ pv.ownBlock = some b)

theorem TreeAt1.lt {w : World} {t : Nat} {T : Pairs} {F : Nat → Prop} (h : TreeAt1 w t T F) : ∀ b, F b → b < w.heap.size := by
  obtain ⟨nv, pv, h, _, _, hF⟩ := h
  intro b hb
  rcases (hF b).1 hb with rfl | e | e
  · exact h.obj.lt
  · exact h.nodes.lt b e
  · exact h.pairs.lt b e
theorem TreeAt1.fr {w w' : World} {t : Nat} {T : Pairs} {F S : Nat → Prop} (h : TreeAt1 w t T F) (hf : Fr S w w') (hn : ∀ b, F b → ¬ S b) : TreeAt1 w' t T F := by
  obtain ⟨nv, pv, h, hs, hl, hF⟩ := h
  exact ⟨nv, pv, ⟨h.obj.fr hf (hn _ ((hF _).2 (.inl rfl))), h.nodes.fr hf (fun b e => hn _ ((hF _).2 (.inr (.inl e)))), h.pairs.fr hf (fun b e => hn _ ((hF _).2 (.inr (.inr e)))), h.d1, h.d2, h.d3⟩, hs, hl, hF⟩

theorem Len1_calls (w : World) (t : Nat) (T : Pairs) (F : Nat → Prop) (h : TreeAt1 w t T F) :
    Calls Try.prog 70 #[.pointer (some ⟨t, 0, none⟩)] w fun e w' => e = .returned (.int .i64 T.length) ∧ w = w' := by
  obtain ⟨nv, pv, h, hs, hl, hF⟩ := h
  have h3 := h.obj.cell 3 rfl
  go_enter Try.func70, Try.ntmps70
  go_wp2
  go_ret
  exact ⟨rfl, rfl⟩

def getTuple (r : Int × Bool) : Value := .tuple #[.int .i64 r.1, .bool r.2]

theorem Get1_calls (w : World) (t : Nat) (T : Pairs) (F : Nat → Prop) (key : ByteArray) (h : TreeAt1 w t T F) :
    Calls Try.prog 112 #[.pointer (some ⟨t, 0, none⟩), .string key] w fun e w' => e = .returned (getTuple (getT T key)) ∧ Fr No w w' := by
  obtain ⟨nv, pv, h, hs, hl, hF⟩ := h
  have hspot := fun W h1 h2 h3 => spot_calls W t 0 nv pv (.slice none 0 0) [(pv, .slice none 0 0)] T key h1 h2 rfl (by simp) h3 (by omega)
  have c0 := h.obj.cell 0 rfl
  have c2 := h.obj.cell 2 rfl
  have hg := getT_eq T hs key
  have hN := h.nodes
  have hP := h.pairs
  obtain ⟨na, ncap, rfl, hc1, hc2, hna⟩ := hN.shape
  obtain ⟨nb, no, rfl⟩ := hna (by simp)
  obtain ⟨pa, pcap, rfl, hc3, hc4, hpa⟩ := hP.shape
  have n0 := hN.cell0 nodeC_length 0 rfl rfl
  have n1 := hN.cell nodeC_length 0 1 rfl rfl
  simp only [Nat.zero_mul, Nat.add_zero] at n0 n1
  have hspot' := hspot w c0 hN hP
  unfold spotTuple at hspot'
  have HG := Lib.hid hg
  clear hg hspot hN hs hF hna
  by_cases hh : hitOf T key = true
  · obtain ⟨p, hp⟩ : ∃ p, T[spotOf T key]? = some p := by
      unfold hitOf at hh
      split at hh
      · exact ⟨_, by assumption⟩
      · cases hh
    have hil := (List.getElem?_eq_some_iff.1 hp).1
    obtain ⟨pb, po, rfl⟩ := hpa (by omega)
    have hc := hP.cell pairC_length _ 1 hp rfl
    have hpbl : pb < w.heap.size := hP.lt pb rfl
    have hilz : (spotOf T key : Int) < (T.length : Int) := by omega
    have HR : Hid (getT T key = (p.2, true)) := Lib.hid (by rw [HG.out, if_pos hh, hp]; rfl)
    rw [hh] at hspot'
    generalize spotOf T key = k at *
    clear hh hP hp hpa h
    go_enter Try.func112, Try.ntmps112
    go_wp2_with fail
    go_loopg [6] 1 (fun g s6 wr => s6 = .int .i64 0 ∧ w = wr)
    case atStart => exact ⟨rfl, rfl⟩
    case round =>
      obtain ⟨rfl, rfl⟩ := hrel
      go_wp2_with (go_at_call 130; refine hspot'.mono ?_; clear hspot'; rintro e w' ⟨rfl, rfl⟩)
      go_ret2
      exact ⟨by rw [HR.out]; rfl, (Fr.refl _ w).alloc _⟩
  · simp only [Bool.not_eq_true] at hh
    have HR : Hid (getT T key = (0, false)) := Lib.hid (by rw [HG.out, hh]; simp)
    rw [hh] at hspot'
    generalize spotOf T key = k at *
    clear hh hP hpa h
    go_enter Try.func112, Try.ntmps112
    go_wp2_with fail
    go_loopg [6] 1 (fun g s6 wr => s6 = .int .i64 0 ∧ w = wr)
    case atStart => exact ⟨rfl, rfl⟩
    case round =>
      obtain ⟨rfl, rfl⟩ := hrel
      go_wp2_with (go_at_call 130; refine hspot'.mono ?_; clear hspot'; rintro e w' ⟨rfl, rfl⟩)
      go_ret2
      exact ⟨by rw [HR.out]; rfl, (Fr.refl _ w).alloc _⟩

theorem IndexNew_calls (w : World) : Calls Try.prog 67 #[] w fun e w' => ∃ t, e = .returned (.pointer (some ⟨t, 0, none⟩)) ∧ ∃ F, TreeAt1 w' t [] F ∧ Fr No w w' ∧ (∀ b, F b → w.heap.size ≤ b) := by
  have hmk : ∀ w, (Instr.makeSlice 175 (.int .i64 1) (.int .i64 1)).run Try.prog w = .ok (.slice (some ⟨w.heap.size, 0, none⟩) 1 1) (w.alloc (.cells #[.slice none 0 0, .slice none 0 0] 198)) := fun _ => by kernel_rfl
  go_enter Try.func67, Try.ntmps67
  go_wp2
  go_ret
  refine ⟨_, rfl, fun b => b = w.heap.size + 1 ∨ (Value.slice (some ⟨w.heap.size, 0, none⟩) 1 1).ownBlock = some b ∨ (Value.slice none 0 0).ownBlock = some b,
    ⟨_, _, ⟨?_, ?_, SlF.nil _ _ _ _, by simp [Value.ownBlock], by simp [Value.ownBlock], by simp [Value.ownBlock]⟩, by simp [Sorted], by simp, fun b => Iff.rfl⟩, ((Fr.refl _ w).alloc _).alloc _, ?_⟩
  · exact ⟨_, alloc_at _ _ _ (by simp)⟩
  · exact ⟨rfl, .inr ⟨_, _, _, _, rfl, alloc_old (alloc_at _ _ _ rfl) _, by simp, by unfold maxLen; omega, by simp, rfl⟩⟩
  · rintro b (rfl | e | e)
    · omega
    · simp [Value.ownBlock] at e; omega
    · simp [Value.ownBlock] at e
end Go.Proofs.Ythljnnjpmdgkoaa
