/- The package index, at a tree of one node: spot, Get, Set, Len, New. The condition: at most nine keys. A region that draws its order, inside a fence that bars nothing (also inside a round): reads and quiet calls first, a forced tail behind them. No condition. -/
import Derived.Test.YthljnnjpmdgkoaaG00
import Derived.Test.YthljnnjpmdgkoaaProg
import Derived.Outline
import Derived.StillTail
import Derived.StillTailTactics
import Derived.OrdersIn
import Derived.TacticsIn
import Derived.OwnWalkIn
import Derived.TacticsInMore
import Derived.RangeFuncCalls
namespace Go.Proofs.Ythljnnjpmdgkoaa
open Go Go.Proofs Go.RowKit
set_option maxRecDepth 100000

def pairC (p : ByteArray × Int) : List Value := [.string p.1, .int .i64 p.2]
theorem pairC_length (p : ByteArray × Int) : (pairC p).length = 2 := rfl
def nodeC (p : Value × Value) : List Value := [p.1, p.2]
theorem nodeC_length (p : Value × Value) : (nodeC p).length = 2 := rfl

def Before (T : Pairs) (key : ByteArray) (i : Nat) : Prop := ∀ j : Nat, j < i → ∀ p, T[j]? = some p → klt p.1 key = true

theorem spotOf_at {T : Pairs} {key : ByteArray} {i : Nat} (h : Before T key i) (hi : i = T.length ∨ ∃ p, T[i]? = some p ∧ klt p.1 key = false) : spotOf T key = i := by
  unfold spotOf
  have hlen : ∀ j, j < i → j < T.length → (!klt (T[j]?.getD default).1 key) = false := by
    intro j hj hjl
    have := h j hj _ (List.getElem?_eq_getElem hjl)
    simp [hjl, this]
  rcases hi with rfl | ⟨p, hp, hk⟩
  · rw [List.findIdx_eq_length]
    intro x hx
    obtain ⟨j, hj, rfl⟩ := List.getElem_of_mem hx
    have := h j hj _ (List.getElem?_eq_getElem hj)
    simp [this]
  · have hil := (List.getElem?_eq_some_iff.1 hp).1
    rw [List.findIdx_eq hil]
    have hp' := (List.getElem?_eq_some_iff.1 hp).2
    refine ⟨by rw [hp']; simp [hk], fun j hj => ?_⟩
    have := h j hj _ (List.getElem?_eq_getElem (by omega))
    simp [this]

def spotTuple (T : Pairs) (key : ByteArray) : Value := .tuple #[.int .i64 (spotOf T key), .bool (hitOf T key)]

/-- 'spot': the first place in a node whose key is not ahead, and whether it is the key. -/
theorem spot_calls (w : World) (t at_ : Nat) (nv : Value) (pv kv : Value) (N : List (Value × Value)) (T : Pairs) (key : ByteArray)
    (ht : w.cell? ⟨t, 0, none⟩ = some nv) (hN : SlF w 198 2 nodeC nv N) (hat : N[at_]? = some (pv, kv)) (hn : N.length ≤ 1099511627776)
    (hT : SlF w 127 2 pairC pv T) (hl : T.length ≤ 1099511627776) :
    Calls Try.prog 130 #[.pointer (some ⟨t, 0, none⟩), .int .i64 at_, .string key] w fun e w' => e = .returned (spotTuple T key) ∧ w = w' := by
  have hlt := (List.getElem?_eq_some_iff.1 hat).1
  obtain ⟨na, ncap, rfl, hc1, hc2, hna⟩ := hN.shape
  obtain ⟨nb, no, rfl⟩ := hna (by omega)
  obtain ⟨pa, pcap, rfl, hc3, hc4, hpa⟩ := hT.shape
  have hnode := hN.cell0 nodeC_length at_ hat rfl
  have hlt' : (at_ : Int) < (N.length : Int) := by omega
  have HT := Lib.hid hT
  have HA := Lib.hid hpa
  clear hN hat hna hT hpa
  go_enter Try.func130, Try.ntmps130
  go_wp2
  go_step3
  go_wp2
  go_step3
  go_wp2
  go_loopg [8, 9] T.length (fun g s8 _ wr => ∃ i : Nat, s8 = .int .i64 i ∧ i + g = T.length ∧ Hid (Before T key i) ∧ w = wr)
  case atStart => exact ⟨0, rfl, by simp, Lib.hid (fun j hj => by omega), rfl⟩
  case round =>
    obtain ⟨i, rfl, hi, HB, rfl⟩ := hrel
    cases gk with
    | zero =>
      have hil : ((i : Int) == (T.length : Int)) = true := by simp; omega
      have hsp : spotOf T key = i := spotOf_at HB.out (.inl (by omega))
      have hht : hitOf T key = false := by unfold hitOf; rw [hsp, List.getElem?_eq_none (by omega)]
      have HS := Lib.hid hsp; have HH := Lib.hid hht
      clear hsp hht
      go_wp2
      rw [Exit.noGoto_ret]
      go_ret2
      exact ⟨by unfold spotTuple; rw [HS.out, HH.out]; rfl, rfl⟩
    | succ g =>
      obtain ⟨pb, po, rfl⟩ := HA.out (by omega)
      obtain ⟨p, hp⟩ : ∃ p, T[i]? = some p := ⟨_, List.getElem?_eq_getElem (by omega)⟩
      have hcell := HT.out.cell0 pairC_length i hp rfl
      have hil : ((i : Int) == (T.length : Int)) = false := by simp; omega
      have hil2 : (i : Int) < (T.length : Int) := by omega
      have HP := Lib.hid hp; clear hp
      by_cases h1 : klt p.1 key = true
      · have h2 := klt_ne h1
        have HK := Lib.hid h1
        unfold klt at h1
        unfold keq at h2
        go_wp2
        go_roundg g
        case rel => exact ⟨i + 1, by go_num, by omega, Lib.hid (fun j hj q hq => by
          by_cases hji : j = i
          · subst hji; rw [HP.out] at hq; cases hq; exact HK.out
          · exact HB.out j (by omega) q hq), rfl⟩
        case measure => omega
      · simp only [Bool.not_eq_true] at h1
        have hsp : spotOf T key = i := spotOf_at HB.out (.inr ⟨p, HP.out, h1⟩)
        have hht : hitOf T key = keq p.1 key := by unfold hitOf; rw [hsp, HP.out]
        have HS := Lib.hid hsp
        clear hsp
        by_cases h2 : keq p.1 key = true
        · rw [h2] at hht
          have HH := Lib.hid hht; clear hht
          unfold klt at h1
          unfold keq at h2
          go_wp2
          rw [Exit.noGoto_ret]
          go_ret2
          exact ⟨by unfold spotTuple; rw [HS.out, HH.out]; rfl, rfl⟩
        · simp only [Bool.not_eq_true] at h2
          rw [h2] at hht
          have HH := Lib.hid hht; clear hht
          unfold klt at h1
          unfold keq at h2
          go_wp2
          rw [Exit.noGoto_ret]
          go_ret2
          exact ⟨by unfold spotTuple; rw [HS.out, HH.out]; rfl, rfl⟩

/-- A tree of one node. -/
structure TreeS (w : World) (t : Nat) (nv pv : Value) (T : Pairs) : Prop where
  obj : Has w t [nv, .slice none 0 0, .int .i64 0, .int .i64 T.length]
  nodes : SlF w 198 2 nodeC nv [(pv, .slice none 0 0)]
  pairs : SlF w 127 2 pairC pv T
  d1 : nv.ownBlock ≠ some t
  d2 : pv.ownBlock ≠ some t
  d3 : ∀ b, pv.ownBlock = some b → nv.ownBlock ≠ some b

def TreeAt1 (w : World) (t : Nat) (T : Pairs) (F : Nat → Prop) : Prop :=
  ∃ nv pv, TreeS w t nv pv T ∧ Sorted T ∧ T.length ≤ 9 ∧ ∀ b, F b ↔ (b = t ∨ nv.ownBlock = some b ∨ pv.ownBlock = some b)

theorem TreeAt1.lt {w : World} {t : Nat} {T : Pairs} {F : Nat → Prop} (h : TreeAt1 w t T F) : ∀ b, F b → b < w.heap.size := by
  obtain ⟨nv, pv, h, _, _, hF⟩ := h
  intro b hb
  rcases (hF b).1 hb with rfl | e | e
  · exact h.obj.lt
  · exact h.nodes.lt b e
  · exact h.pairs.lt b e
theorem TreeAt1.fr {w w' : World} {t : Nat} {T : Pairs} {F S : Nat → Prop} (h : TreeAt1 w t T F) (hf : Fr S w w') (hn : ∀ b, F b → ¬ S b) : TreeAt1 w' t T F := by
  obtain ⟨nv, pv, h, hs, hl, hF⟩ := h
  exact ⟨nv, pv, ⟨h.obj.fr hf (hn _ ((hF _).2 (.inl rfl))), h.nodes.fr hf (fun b e => hn _ ((hF _).2 (.inr (.inl e)))), h.pairs.fr hf (fun b e => hn _ ((hF _).2 (.inr (.inr e)))), h.d1, h.d2, h.d3⟩, hs, hl, hF⟩

theorem Len1_calls (w : World) (t : Nat) (T : Pairs) (F : Nat → Prop) (h : TreeAt1 w t T F) :
    Calls Try.prog 70 #[.pointer (some ⟨t, 0, none⟩)] w fun e w' => e = .returned (.int .i64 T.length) ∧ w = w' := by
  obtain ⟨nv, pv, h, hs, hl, hF⟩ := h
  have h3 := h.obj.cell 3 rfl
  go_enter Try.func70, Try.ntmps70
  go_wp2
  go_ret
  exact ⟨rfl, rfl⟩

def getTuple (r : Int × Bool) : Value := .tuple #[.int .i64 r.1, .bool r.2]

theorem Get1_calls (w : World) (t : Nat) (T : Pairs) (F : Nat → Prop) (key : ByteArray) (h : TreeAt1 w t T F) :
    Calls Try.prog 112 #[.pointer (some ⟨t, 0, none⟩), .string key] w fun e w' => e = .returned (getTuple (getT T key)) ∧ Fr No w w' := by
  obtain ⟨nv, pv, h, hs, hl, hF⟩ := h
  have hspot := fun W h1 h2 h3 => spot_calls W t 0 nv pv (.slice none 0 0) [(pv, .slice none 0 0)] T key h1 h2 rfl (by simp) h3 (by omega)
  have c0 := h.obj.cell 0 rfl
  have c2 := h.obj.cell 2 rfl
  have hg := getT_eq T hs key
  have hN := h.nodes
  have hP := h.pairs
  obtain ⟨na, ncap, rfl, hc1, hc2, hna⟩ := hN.shape
  obtain ⟨nb, no, rfl⟩ := hna (by simp)
  obtain ⟨pa, pcap, rfl, hc3, hc4, hpa⟩ := hP.shape
  have n0 := hN.cell0 nodeC_length 0 rfl rfl
  have n1 := hN.cell nodeC_length 0 1 rfl rfl
  simp only [Nat.zero_mul, Nat.add_zero] at n0 n1
  have hspot' := hspot w c0 hN hP
  unfold spotTuple at hspot'
  have HG := Lib.hid hg
  clear hg hspot hN hs hF hna
  by_cases hh : hitOf T key = true
  · obtain ⟨p, hp⟩ : ∃ p, T[spotOf T key]? = some p := by
      unfold hitOf at hh
      split at hh
      · exact ⟨_, by assumption⟩
      · cases hh
    have hil := (List.getElem?_eq_some_iff.1 hp).1
    obtain ⟨pb, po, rfl⟩ := hpa (by omega)
    have hc := hP.cell pairC_length _ 1 hp rfl
    have hpbl : pb < w.heap.size := hP.lt pb rfl
    have hilz : (spotOf T key : Int) < (T.length : Int) := by omega
    have HR : Hid (getT T key = (p.2, true)) := Lib.hid (by rw [HG.out, if_pos hh, hp]; rfl)
    rw [hh] at hspot'
    generalize spotOf T key = k at *
    clear hh hP hp hpa h
    go_enter Try.func112, Try.ntmps112
    go_wp2_with fail
    go_loopg [6] 1 (fun g s6 wr => s6 = .int .i64 0 ∧ w = wr)
    case atStart => exact ⟨rfl, rfl⟩
    case round =>
      obtain ⟨rfl, rfl⟩ := hrel
      go_wp2_with (go_at_call 130; refine hspot'.mono ?_; clear hspot'; rintro e w' ⟨rfl, rfl⟩)
      go_ret2
      exact ⟨by rw [HR.out]; rfl, (Fr.refl _ w).alloc _⟩
  · simp only [Bool.not_eq_true] at hh
    have HR : Hid (getT T key = (0, false)) := Lib.hid (by rw [HG.out, hh]; simp)
    rw [hh] at hspot'
    generalize spotOf T key = k at *
    clear hh hP hpa h
    go_enter Try.func112, Try.ntmps112
    go_wp2_with fail
    go_loopg [6] 1 (fun g s6 wr => s6 = .int .i64 0 ∧ w = wr)
    case atStart => exact ⟨rfl, rfl⟩
    case round =>
      obtain ⟨rfl, rfl⟩ := hrel
      go_wp2_with (go_at_call 130; refine hspot'.mono ?_; clear hspot'; rintro e w' ⟨rfl, rfl⟩)
      go_ret2
      exact ⟨by rw [HR.out]; rfl, (Fr.refl _ w).alloc _⟩

theorem IndexNew_calls (w : World) : Calls Try.prog 67 #[] w fun e w' => ∃ t, e = .returned (.pointer (some ⟨t, 0, none⟩)) ∧ ∃ F, TreeAt1 w' t [] F ∧ Fr No w w' ∧ (∀ b, F b → w.heap.size ≤ b) := by
  have hmk : ∀ w, (Instr.makeSlice 175 (.int .i64 1) (.int .i64 1)).run Try.prog w = .ok (.slice (some ⟨w.heap.size, 0, none⟩) 1 1) (w.alloc (.cells #[.slice none 0 0, .slice none 0 0] 198)) := fun _ => by kernel_rfl
  go_enter Try.func67, Try.ntmps67
  go_wp2
  go_ret
  refine ⟨_, rfl, fun b => b = w.heap.size + 1 ∨ (Value.slice (some ⟨w.heap.size, 0, none⟩) 1 1).ownBlock = some b ∨ (Value.slice none 0 0).ownBlock = some b,
    ⟨_, _, ⟨?_, ?_, SlF.nil _ _ _ _, by simp [Value.ownBlock], by simp [Value.ownBlock], by simp [Value.ownBlock]⟩, by simp [Sorted], by simp, fun b => Iff.rfl⟩, ((Fr.refl _ w).alloc _).alloc _, ?_⟩
  · exact ⟨_, alloc_at _ _ _ (by simp)⟩
  · exact ⟨rfl, .inr ⟨_, _, _, _, rfl, alloc_old (alloc_at _ _ _ rfl) _, by simp, by unfold maxLen; omega, by simp, rfl⟩⟩
  · rintro b (rfl | e | e)
    · omega
    · simp [Value.ownBlock] at e; omega
    · simp [Value.ownBlock] at e
end Go.Proofs.Ythljnnjpmdgkoaa

namespace Go.Proofs.Ythljnnjpmdgkoaa
open Go Go.RowKit
section
variable {F : Fence} {n : Nat} {P : Program} {ops : Array Oper} {md : Region.Mode} {w : World}

theorem uponIn_of_still (hfn : ∀ f, F.fn f) (hdep : F.depth = none) (hF : ∀ (f : FuncId) (args : Array Value) (w : World) (R : Ending → World → Prop), Calls P f args w R → CallsIn F (n - 1) P f args w R)
    {o : Oper} {a : Act} {K : Act → Prop} {K' : Act → World → Prop} {Q' : Exit → Act → World → Prop} (h : ∀ a, K a → K' a w) (hh : o.still P a w K) : o.wpIn F n P a w K' Q' := by
  refine ⟨fun f _ => hfn f, ?_⟩
  have hnd : ∀ c, o.op ≠ .defer c := by
    intro c hc
    unfold Oper.still at hh
    have : ∀ (c : Call) (t : TypeId), ∀ r, ((execOp a.eval o).run P w) = r → o.op = .defer c → (∃ d w', r = .ok (.defer d) w') ∨ (∃ x w', r = .halt x w') := by
      intro c t r hr ho
      unfold execOp at hr
      rw [ho] at hr
      simp only at hr
      subst hr
      generalize hs : (resolve a.eval c o.type).run P w = s
      cases s with
      | ok d w' => left; refine ⟨d, w', ?_⟩; simp [hs]
      | halt x w' => right; refine ⟨x, w', ?_⟩; simp [hs]
    rcases this c 0 _ rfl hc with ⟨d, w', e⟩ | ⟨x, w', e⟩ <;> rw [e] at hh <;> simp only [Oper.stillUpon] at hh
  rw [Oper.semAt_eq _ _ _ hnd]
  unfold Oper.still at hh
  generalize (execOp a.eval o).run P w = r at *
  cases r with
  | ok x w' =>
    cases x <;> simp only [Oper.stillUpon] at hh <;> simp only [Oper.uponIn]
    case enter f args =>
      obtain ⟨rfl, v, hc, hn⟩ := hh
      exact ⟨(fun hd => by rw [hdep] at hd; cases hd), (hF _ _ _ _ hc).mono fun e w'' ⟨he, hw⟩ => by subst he; subst hw; exact h _ hn⟩
    all_goals (obtain ⟨rfl, h2⟩ := hh; exact h _ h2)
  | halt x w' => simp only [Oper.stillUpon] at hh

theorem wpOpIn_of_stOp (hfn : ∀ f, F.fn f) (hdep : F.depth = none) (hF : ∀ (f : FuncId) (args : Array Value) (w : World) (R : Ending → World → Prop), Calls P f args w R → CallsIn F (n - 1) P f args w R)
    {i : Nat} {a : Act} {K : Act → Prop} {K' : Act → World → Prop} {Q' : Exit → Act → World → Prop} (h : ∀ a, K a → K' a w) (hh : stOp P ops w i K a) : wpOpIn F n P ops Q' i K' a w := by
  unfold stOp at hh
  unfold wpOpIn
  split
  · rename_i ho; simp only [ho] at hh; exact h _ hh
  · rename_i o ho
    simp only [ho] at hh
    split
    · rename_i hw; simp only [hw, if_true] at hh; exact uponIn_of_still hfn hdep hF h hh
    · rename_i hw; simp only [hw] at hh; exact ⟨fun f _ => hfn f, h _ hh⟩

theorem wpAnyIn_of_head (hfn : ∀ f, F.fn f) (hdep : F.depth = none) (hF : ∀ (f : FuncId) (args : Array Value) (w : World) (R : Ending → World → Prop), Calls P f args w R → CallsIn F (n - 1) P f args w R)
    {m g : Nat} {L : Array Bool → Act → Prop} {Q' : Exit → Act → World → Prop} (hL : ∀ listed a, L listed a → wpAnyIn F n P md ops Q' g listed a w) :
    ∀ (f : Nat) (listed : Array Bool) (a : Act), wpAnyL P md ops w m L f listed a → wpAnyIn F n P md ops Q' (f + g) listed a w
  | 0, listed, a, h => by rw [Nat.zero_add]; exact hL _ _ h
  | f + 1, listed, a, h => by
    rw [show f + 1 + g = (f + g) + 1 by omega]
    exact ⟨fun h0 => absurd h0 h.1, fun i hi => wpOpIn_of_stOp hfn hdep hF (fun a' h' => wpAnyIn_of_head hfn hdep hF hL f _ a' h') (h.2 i hi).2⟩

theorem wpAnyIn_of_seq {Q' : Exit → Act → World → Prop} : ∀ (l : List Oper) (k : Nat) (listed : Array Bool) (a : Act) (w : World), (∀ j : Nat, l[j]? = ops[k + j]?) →
    Region.seqB md ops l.length k listed = true → wpListIn F n P ops Q' l a w → wpAnyIn F n P md ops Q' l.length listed a w
  | [], _, _, _, _, _, hB, h => ⟨by simpa [Region.seqB] using hB, h⟩
  | o :: l, k, listed, a, w, hl, hB, h => by
    have h0 : ops[k]? = some o := by simpa using (hl 0).symm
    simp only [List.length_cons, Region.seqB, Bool.and_eq_true, decide_eq_true_eq] at hB
    refine ⟨fun h1 => (by rw [hB.1] at h1; cases h1), fun i hi => ?_⟩
    rw [hB.1] at hi
    have hik : i = k := by simpa using hi
    subst hik
    have hw : wpOpIn F n P ops Q' i (wpListIn F n P ops Q' l) a w := by unfold wpOpIn; simp only [h0]; exact h
    exact wpOpIn_mono (fun a' w' h' => wpAnyIn_of_seq l (i + 1) _ a' w' (fun j => by have := hl (j + 1); simpa [Nat.add_assoc, Nat.add_comm 1 j] using this) hB.2 h') hw

theorem wpIn_region_still_tail {id : Nat} {Q : Exit → Act → World → Prop} {a : Act} {w : World} {l : List Oper} (m : Nat) (hfn : ∀ f, F.fn f) (hdep : F.depth = none)
    (hF : ∀ (f : FuncId) (args : Array Value) (w : World) (R : Ending → World → Prop), Calls P f args w R → CallsIn F (n - 1) P f args w R) (hm : P.follows .mixedOrders = true) (hB : Region.lexTailB .any l.toArray m = true)
    (h : wpStill P l.toArray w.drew (fun a' => wpListIn F n P l.toArray Q (l.drop m) a' w.drew) (l.take m) a) : (Code.region id l.toArray true).wpIn F n P Q a w := by
  simp only [Region.lexTailB, Bool.and_eq_true, decide_eq_true_eq] at hB
  obtain ⟨⟨⟨⟨hsel, hn⟩, hs⟩, hc⟩, hlex⟩ := hB
  have hn' : m < l.length := by simpa using hn
  have htl : (l.take m).length = m := by simp; omega
  have hdl : (l.drop m).length = l.toArray.size - m := by simp
  have inv0 : HeadInv .any l.toArray m (Array.replicate l.toArray.size false) :=
    ⟨by simp, fun j oj _ hl => (by rw [getD_replicate_false] at hl; cases hl), fun t _ ht => getD_in (by simpa using ht) (getD_replicate_false _ _)⟩
  have H := wpAnyL_lex (md := .any) (g := l.toArray.size - m) hsel hs hc hn (l.take m) 0 _ a (fun j hj => by
    have hj' : j < m := by rw [htl] at hj; exact hj
    simp [hj']) (by simpa using htl) inv0 (by rw [htl]; exact hlex) h
  refine wpIn_region_any hm ?_
  have := wpAnyIn_of_head hfn hdep hF (Q' := Q) (g := l.toArray.size - m) (fun listed a' hL => by
    have := wpAnyIn_of_seq (F := F) (n := n) (P := P) (md := .any) (Q' := Q) (l.drop m) m listed a' w.drew (fun j => by simp [List.getElem?_drop]) (by rw [hdl]; exact hL.1) hL.2
    rwa [hdl] at this) _ _ _ H
  rw [htl, show m + (l.toArray.size - m) = l.toArray.size by omega] at this
  exact this
end
theorem calls_in_round {n : Nat} {P : Program} (l : Nat) (f : FuncId) (args : Array Value) (w : World) (R : Ending → World → Prop) (h : Calls P f args w R) : CallsIn (Fence.wide.inRound l) n P f args w R :=
  CallsIn.inRound l (callsIn_wide.2 h)

theorem wpListIn_append_f {α : Type} {f : α → List Value} {F : Fence} {n : Nat} {P : Program} {w : World} {ops : Array Oper} {rest : List Oper} {o : Oper} {a : Act} {Q : Exit → Act → World → Prop} (hgd : o.guard = none) (s x : Operand) (t : TypeId)
    (ho : o.op = .call { callee := .builtin .append, args := #[s, x], argTypes := #[t, t] })
    (e : TypeId) (i : TypeInfo) (z : Value) (sz bytes : Nat) (ht : P.underlying t = some (.slice e)) (hi : P.info? e = some i) (hz : i.zero = some z) (hsize : i.size = sz) (hby : i.bytes = bytes) (hzs : z.cells.size = sz) (hsz : 0 < sz)
    (v : Value) (L : List α) (hs : a.eval s = v) (hown : SlF w e sz f v L)
    (b c : Nat) (y : α) (hx : a.eval x = .slice (some ⟨b, 0, none⟩) 1 c) (hnews : ∀ j u, (f y)[j]? = some u → w.cell? ((⟨b, 0, none⟩ : Addr).add j) = some u) (hl : (f y).length = sz) (h1 : ∀ u ∈ f y, u.oneCell' = true)
    (h63 : L.length + 1 ≤ maxLen) (hbytes : (L.length + 1) * bytes ≤ 140737488355328)
    (h : ∀ g o' cap w', SlF w' e sz f (.slice (some ⟨g, o', none⟩) (L.length + 1) cap) (L ++ [y]) → w.grownBy w' v.ownBlock → (v.ownBlock = some g ∨ g = w.heap.size) → g < w'.heap.size →
      wpListIn F n P ops Q rest (a.put o.dst (.slice (some ⟨g, o', none⟩) (L.length + 1) cap)) w') : wpListIn F n P ops Q (o :: rest) a w := by
  subst hsize
  subst hby
  refine wpListIn_plain hgd fun K hK' => ?_
  obtain ⟨g, o', cap, w', hrun, h2, h3, h4, h5⟩ := run_append_sl (P := P) w t o.type e i z ht hi hz hzs hsz v L.length (L.flatMap f) hown ⟨b, 0, none⟩ 1 c (f y) (by omega) (by omega) hnews h1 h63 hbytes
  unfold Oper.wpIn
  refine ⟨?_, ?_⟩
  · simp [Oper.about, ho, resolve, Target.leads, Sem.run_pure]
  · rw [Oper.semAt_plain F _ _ (by rw [ho]; intro c hc'; cases hc')]
    simp [execOp, ho, resolve, invoke, builtin, hs, hx, hrun, Result.andThen]
    refine hK' _ _ (h g o' cap w' ?_ h3 h4 h5)
    unfold SlF
    simpa using h2
end Go.Proofs.Ythljnnjpmdgkoaa
