/- A region that draws its order, inside a fence that bars nothing (also inside a round): reads and quiet calls first, a forced tail behind them. No condition. -/
import Derived.StillTail
import Derived.StillTailTactics
import Derived.OrdersIn
import Derived.TacticsIn
import Derived.OwnWalkIn
import Derived.TacticsInMore
import Derived.RangeFuncCalls
import Derived.Test.YtillejdjghlicaaGreatDoorLib
namespace Go.Proofs.YtillejdjghlicaaGreatDoor
open Go Go.RowKit
section
variable {F : Fence} {n : Nat} {P : Program} {ops : Array Oper} {md : Region.Mode} {w : World}

theorem uponIn_of_still (hfn : ∀ f, F.fn f) (hdep : F.depth = none) (hF : ∀ (f : FuncId) (args : Array Value) (w : World) (R : Ending → World → Prop), Calls P f args w R → CallsIn F (n - 1) P f args w R)
    {o : Oper} {a : Act} {K : Act → Prop} {K' : Act → World → Prop} {Q' : Exit → Act → World → Prop} (h : ∀ a, K a → K' a w) (hh : o.still P a w K) : o.wpIn F n P a w K' Q' := by
  refine ⟨fun f _ => hfn f, ?_⟩
  have hnd : ∀ c, o.op ≠ .defer c := by
    intro c hc
    unfold Oper.still at hh
    have : ∀ (c : Call) (t : TypeId), ∀ r, ((execOp a.eval o).run P w) = r → o.op = .defer c → (∃ d w', r = .ok (.defer d) w') ∨ (∃ x w', r = .halt x w') := by
      intro c t r hr ho
      unfold execOp at hr
      rw [ho] at hr
      simp only at hr
      subst hr
      generalize hs : (resolve a.eval c o.type).run P w = s
      cases s with
      | ok d w' => left; refine ⟨d, w', ?_⟩; simp [hs]
      | halt x w' => right; refine ⟨x, w', ?_⟩; simp [hs]
    rcases this c 0 _ rfl hc with ⟨d, w', e⟩ | ⟨x, w', e⟩ <;> rw [e] at hh <;> simp only [Oper.stillUpon] at hh
  rw [Oper.semAt_eq _ _ _ hnd]
  unfold Oper.still at hh
  generalize (execOp a.eval o).run P w = r at *
  cases r with
  | ok x w' =>
    cases x <;> simp only [Oper.stillUpon] at hh <;> simp only [Oper.uponIn]
    case enter f args =>
      obtain ⟨rfl, v, hc, hn⟩ := hh
      exact ⟨(fun hd => by rw [hdep] at hd; cases hd), (hF _ _ _ _ hc).mono fun e w'' ⟨he, hw⟩ => by subst he; subst hw; exact h _ hn⟩
    all_goals (obtain ⟨rfl, h2⟩ := hh; exact h _ h2)
  | halt x w' => simp only [Oper.stillUpon] at hh

theorem wpOpIn_of_stOp (hfn : ∀ f, F.fn f) (hdep : F.depth = none) (hF : ∀ (f : FuncId) (args : Array Value) (w : World) (R : Ending → World → Prop), Calls P f args w R → CallsIn F (n - 1) P f args w R)
    {i : Nat} {a : Act} {K : Act → Prop} {K' : Act → World → Prop} {Q' : Exit → Act → World → Prop} (h : ∀ a, K a → K' a w) (hh : stOp P ops w i K a) : wpOpIn F n P ops Q' i K' a w := by
  unfold stOp at hh
  unfold wpOpIn
  split
  · rename_i ho; simp only [ho] at hh; exact h _ hh
  · rename_i o ho
    simp only [ho] at hh
    split
    · rename_i hw; simp only [hw, if_true] at hh; exact uponIn_of_still hfn hdep hF h hh
    · rename_i hw; simp only [hw] at hh; exact ⟨fun f _ => hfn f, h _ hh⟩

theorem wpAnyIn_of_head (hfn : ∀ f, F.fn f) (hdep : F.depth = none) (hF : ∀ (f : FuncId) (args : Array Value) (w : World) (R : Ending → World → Prop), Calls P f args w R → CallsIn F (n - 1) P f args w R)
    {m g : Nat} {L : Array Bool → Act → Prop} {Q' : Exit → Act → World → Prop} (hL : ∀ listed a, L listed a → wpAnyIn F n P md ops Q' g listed a w) :
    ∀ (f : Nat) (listed : Array Bool) (a : Act), wpAnyL P md ops w m L f listed a → wpAnyIn F n P md ops Q' (f + g) listed a w
  | 0, listed, a, h => by rw [Nat.zero_add]; exact hL _ _ h
  | f + 1, listed, a, h => by
    rw [show f + 1 + g = (f + g) + 1 by omega]
    exact ⟨fun h0 => absurd h0 h.1, fun i hi => wpOpIn_of_stOp hfn hdep hF (fun a' h' => wpAnyIn_of_head hfn hdep hF hL f _ a' h') (h.2 i hi).2⟩

theorem wpAnyIn_of_seq {Q' : Exit → Act → World → Prop} : ∀ (l : List Oper) (k : Nat) (listed : Array Bool) (a : Act) (w : World), (∀ j : Nat, l[j]? = ops[k + j]?) →
    Region.seqB md ops l.length k listed = true → wpListIn F n P ops Q' l a w → wpAnyIn F n P md ops Q' l.length listed a w
  | [], _, _, _, _, _, hB, h => ⟨by simpa [Region.seqB] using hB, h⟩
  | o :: l, k, listed, a, w, hl, hB, h => by
    have h0 : ops[k]? = some o := by simpa using (hl 0).symm
    simp only [List.length_cons, Region.seqB, Bool.and_eq_true, decide_eq_true_eq] at hB
    refine ⟨fun h1 => (by rw [hB.1] at h1; cases h1), fun i hi => ?_⟩
    rw [hB.1] at hi
    have hik : i = k := by simpa using hi
    subst hik
    have hw : wpOpIn F n P ops Q' i (wpListIn F n P ops Q' l) a w := by unfold wpOpIn; simp only [h0]; exact h
    exact wpOpIn_mono (fun a' w' h' => wpAnyIn_of_seq l (i + 1) _ a' w' (fun j => by have := hl (j + 1); simpa [Nat.add_assoc, Nat.add_comm 1 j] using this) hB.2 h') hw

theorem wpIn_region_still_tail {id : Nat} {Q : Exit → Act → World → Prop} {a : Act} {w : World} {l : List Oper} (m : Nat) (hfn : ∀ f, F.fn f) (hdep : F.depth = none)
    (hF : ∀ (f : FuncId) (args : Array Value) (w : World) (R : Ending → World → Prop), Calls P f args w R → CallsIn F (n - 1) P f args w R) (hm : P.follows .mixedOrders = true) (hB : Region.lexTailB .any l.toArray m = true)
    (h : wpStill P l.toArray w.drew (fun a' => wpListIn F n P l.toArray Q (l.drop m) a' w.drew) (l.take m) a) : (Code.region id l.toArray true).wpIn F n P Q a w := by
  simp only [Region.lexTailB, Bool.and_eq_true, decide_eq_true_eq] at hB
  obtain ⟨⟨⟨⟨hsel, hn⟩, hs⟩, hc⟩, hlex⟩ := hB
  have hn' : m < l.length := by simpa using hn
  have htl : (l.take m).length = m := by simp; omega
  have hdl : (l.drop m).length = l.toArray.size - m := by simp
  have inv0 : HeadInv .any l.toArray m (Array.replicate l.toArray.size false) :=
    ⟨by simp, fun j oj _ hl => (by rw [getD_replicate_false] at hl; cases hl), fun t _ ht => getD_in (by simpa using ht) (getD_replicate_false _ _)⟩
  have H := wpAnyL_lex (md := .any) (g := l.toArray.size - m) hsel hs hc hn (l.take m) 0 _ a (fun j hj => by
    have hj' : j < m := by rw [htl] at hj; exact hj
    simp [hj']) (by simpa using htl) inv0 (by rw [htl]; exact hlex) h
  refine wpIn_region_any hm ?_
  have := wpAnyIn_of_head hfn hdep hF (Q' := Q) (g := l.toArray.size - m) (fun listed a' hL => by
    have := wpAnyIn_of_seq (F := F) (n := n) (P := P) (md := .any) (Q' := Q) (l.drop m) m listed a' w.drew (fun j => by simp [List.getElem?_drop]) (by rw [hdl]; exact hL.1) hL.2
    rwa [hdl] at this) _ _ _ H
  rw [htl, show m + (l.toArray.size - m) = l.toArray.size by omega] at this
  exact this
end
theorem calls_in_round {n : Nat} {P : Program} (l : Nat) (f : FuncId) (args : Array Value) (w : World) (R : Ending → World → Prop) (h : Calls P f args w R) : CallsIn (Fence.wide.inRound l) n P f args w R :=
  CallsIn.inRound l (callsIn_wide.2 h)

theorem wpListIn_append_f {α : Type} {f : α → List Value} {F : Fence} {n : Nat} {P : Program} {w : World} {ops : Array Oper} {rest : List Oper} {o : Oper} {a : Act} {Q : Exit → Act → World → Prop} (hgd : o.guard = none) (s x : Operand) (t : TypeId)
    (ho : o.op = .call { callee := .builtin .append, args := #[s, x], argTypes := #[t, t] })
    (e : TypeId) (i : TypeInfo) (z : Value) (sz bytes : Nat) (ht : P.underlying t = some (.slice e)) (hi : P.info? e = some i) (hz : i.zero = some z) (hsize : i.size = sz) (hby : i.bytes = bytes) (hzs : z.cells.size = sz) (hsz : 0 < sz)
    (v : Value) (L : List α) (hs : a.eval s = v) (hown : SlF w e sz f v L)
    (b c : Nat) (y : α) (hx : a.eval x = .slice (some ⟨b, 0, none⟩) 1 c) (hnews : ∀ j u, (f y)[j]? = some u → w.cell? ((⟨b, 0, none⟩ : Addr).add j) = some u) (hl : (f y).length = sz) (h1 : ∀ u ∈ f y, u.oneCell' = true)
    (h63 : L.length + 1 ≤ maxLen) (hbytes : (L.length + 1) * bytes ≤ 140737488355328)
    (h : ∀ g o' cap w', SlF w' e sz f (.slice (some ⟨g, o', none⟩) (L.length + 1) cap) (L ++ [y]) → w.grownBy w' v.ownBlock → (v.ownBlock = some g ∨ g = w.heap.size) → g < w'.heap.size →
      wpListIn F n P ops Q rest (a.put o.dst (.slice (some ⟨g, o', none⟩) (L.length + 1) cap)) w') : wpListIn F n P ops Q (o :: rest) a w := by
  subst hsize
  subst hby
  refine wpListIn_plain hgd fun K hK' => ?_
  obtain ⟨g, o', cap, w', hrun, h2, h3, h4, h5⟩ := run_append_sl (P := P) w t o.type e i z ht hi hz hzs hsz v L.length (L.flatMap f) hown ⟨b, 0, none⟩ 1 c (f y) (by omega) (by omega) hnews h1 h63 hbytes
  unfold Oper.wpIn
  refine ⟨?_, ?_⟩
  · simp [Oper.about, ho, resolve, Target.leads, Sem.run_pure]
  · rw [Oper.semAt_plain F _ _ (by rw [ho]; intro c hc'; cases hc')]
    simp [execOp, ho, resolve, invoke, builtin, hs, hx, hrun, Result.andThen]
    refine hK' _ _ (h g o' cap w' ?_ h3 h4 h5)
    unfold SlF
    simpa using h2
end Go.Proofs.YtillejdjghlicaaGreatDoor
