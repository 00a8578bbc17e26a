/- The package index: the iterator over a tree of one node, and Range. The condition: at most nine keys. Own laws: the builtin copy at elements of any size; maps keyed by ints; loading a whole record. No condition. -/
import Derived.Test.YthljnnjpmdgkoaaG01
import Derived.Test.YthljnnjpmdgkoaaG00
import Derived.RangeFuncNested
import Derived.RangeFuncBound
import Derived.RangeFuncCalls
import Derived.RangeFuncLeaves
import Derived.RangeFuncBox
import Derived.RangeFuncWrites
import Derived.Shelf.Abstract
import Derived.OwnWalkIn
import Derived.TacticsInMore
import Derived.LoopNIn
import Derived.LoopIn
namespace Go.Proofs.Ythljnnjpmdgkoaa
open Go Go.Proofs Go.RowKit Go.Shelf
set_option maxRecDepth 100000
attribute [local go_sem] Oper.semAt_some

theorem room_of_none {F : Fence} (hd : F.depth = none) (k : Nat) : F.room k := fun d h => by rw [hd] at h; cases h
theorem yield_anyDepth {F : Fence} (hd : F.depth = none) {m : Nat} (m' : Nat) {P : Program} {l : Nat} {args : Array Value} {W : World} {R : Ending → World → Prop} (h : YieldAt F m P l args W R) : YieldAt F m' P l args W R := by
  obtain ⟨fn, tmps, assign, body, hy, hR⟩ := h
  exact ⟨fn, tmps, assign, body, hy, hR.1, fun c cs _ => hR.2 c cs (room_of_none hd _)⟩

def pairEnc (x : ByteArray × Int) : Array Value := #[.agg #[.string x.1, .int .i64 x.2]]

/-- What a round of 'Range' keeps: all old blocks but rows of pairs beyond n₀ and the box Bo. -/
structure KpR (n₀ Bo : Nat) (A B : World) : Prop where
  size : A.heap.size ≤ B.heap.size
  low : ∀ k, k < n₀ → k ≠ Bo → B.heap[k]? = A.heap[k]?
  rows : ∀ (k : Nat) c e fr, A.heap[k]? = some (.cells c e fr) → e ≠ 127 → k ≠ Bo → B.heap[k]? = A.heap[k]?
theorem KpR.refl (n₀ Bo : Nat) (A : World) : KpR n₀ Bo A A := ⟨Nat.le_refl _, fun _ _ _ => rfl, fun _ _ _ _ _ _ _ => rfl⟩
theorem KpR.trans {n₀ Bo : Nat} {A B C : World} (h : KpR n₀ Bo A B) (k : KpR n₀ Bo B C) : KpR n₀ Bo A C :=
  ⟨Nat.le_trans h.size k.size, fun i hi hb => (k.low i hi hb).trans (h.low i hi hb), fun i c e fr hi he hb => (k.rows i c e fr ((h.rows i c e fr hi he hb).trans hi) he hb).trans (h.rows i c e fr hi he hb)⟩
theorem KpR.putObj {n₀ Bo : Nat} {w : World} (hn : n₀ ≤ w.heap.size) (W : World) (l : Nat) (o o' : Obj) (hl : w.heap.size ≤ l) (h : W.heap[l]? = some o) (hc : o.isCells = false) (_ : o.isWalk = false) : KpR n₀ Bo W (W.putObj l o') :=
  ⟨by simp, fun k hk _ => World.putObj_heap_other (by omega), fun k c e fr hk _ _ => World.putObj_heap_other (by rintro rfl; rw [h] at hk; cases hk; cases hc)⟩
theorem KpR.of_fr {n₀ Bo : Nat} {A B : World} {S : Nat → Prop} (h : Fr S A B) (hn : n₀ ≤ A.heap.size) (hS : ∀ k, S k → k = Bo ∨ (n₀ ≤ k ∧ ∃ c fr, A.heap[k]? = some (.cells c 127 fr))) : KpR n₀ Bo A B :=
  ⟨h.size, fun k hk hb => h.block k (by omega) fun s => by rcases hS k s with e | ⟨e, _⟩ <;> omega,
    fun k c e fr hk he hb => h.block k (heap_lt hk) fun s => by
      rcases hS k s with e' | ⟨_, c', fr', e'⟩
      · exact hb e'
      · rw [hk] at e'; cases e'; exact he rfl⟩

theorem hdd (k : Nat) : (Fence.wide.depth.isSome = true → 1 ≤ k) := fun h => by cases h

/-- 'walk' over a tree of one node, whose cells are told one by one. -/
theorem walk1_in (n l t n₀ Bo : Nat) (hBo : Bo < n₀) (nv pv : Value) (T : Pairs) (frm : ByteArray) (J Jx : Pairs → World → Prop) (N : Nat) (hN : T.length ≤ N) (hT : T.length ≤ 9)
    (hJ : ∀ pre W W', J pre W → Fr No W W' → J pre W')
    (hY : ∀ m pre x W, J pre W → pre.length < N → YieldAt Fence.wide m Try.prog l (pairEnc x) W fun e W' =>
      (e = .returned (.bool true) ∧ J (pre ++ [x]) W' ∧ KpR n₀ Bo W W') ∨ (e = .returned (.bool false) ∧ Jx (pre ++ [x]) W'))
    (W : World) (hn : n₀ ≤ W.heap.size) (h : TreeS W t nv pv T) (_htn : t < n₀ ∧ t ≠ Bo) (hnn : ∀ b, nv.ownBlock = some b → b < n₀ ∧ b ≠ Bo) (hpn : ∀ b, pv.ownBlock = some b → b < n₀ ∧ b ≠ Bo) (h0 : J [] W) :
    CallsIn Fence.wide n Try.prog 128 #[.pointer (some ⟨t, 0, none⟩), .int .i64 0, .string frm, .func (.yield l) #[] #[]] W fun e W' =>
      (e = .returned (.bool true) ∧ J (T.drop (spotOf T frm)) W') ∨ (e = .returned (.bool false) ∧ ∃ pre, pre <+: T.drop (spotOf T frm) ∧ Jx pre W') := by
  have c0 := h.obj.cell 0 rfl
  have hsp := spot_calls W t 0 nv pv (.slice none 0 0) [(pv, .slice none 0 0)] T frm c0 h.nodes rfl (by simp) h.pairs (by omega)
  unfold spotTuple at hsp
  obtain ⟨na, ncap, rfl, hc1, hc2, hna⟩ := h.nodes.shape
  obtain ⟨nb, no, rfl⟩ := hna (by simp)
  obtain ⟨pa, pcap, rfl, hc3, hc4, hpa⟩ := h.pairs.shape
  have n0 := h.nodes.cell0 nodeC_length 0 rfl rfl
  have n1 := h.nodes.cell nodeC_length 0 1 rfl rfl
  simp only [Nat.zero_mul, Nat.add_zero] at n0 n1
  have hsl := spotOf_le T frm
  have H := Lib.hid h
  have HA := Lib.hid hpa
  have HPN := Lib.hid hpn
  clear h hna hpa hnn hpn
  refine callsIn_of_wp Try.func128 rfl trivial ?_ rfl
  simp only [Try.ntmps128, List.size_toArray, List.length_cons, List.length_nil, Nat.reduceAdd, Nat.reduceSub, Array.replicate_succ, Array.replicate_zero, List.push_toArray, List.append_toArray, List.nil_append, List.cons_append]
  have hbl : ∀ b, b < n₀ → b < W.heap.size := fun b hb => by omega
  generalize hitOf T frm = hit at hsp
  generalize spotOf T frm = s0 at *
  cases hit
  all_goals
    gi_wp2_with (refine ⟨trivial, hdd _, ?_⟩; gi_at_call 130; refine (callsIn_wide.2 hsp).mono ?_; clear hsp; rintro e w' ⟨rfl, rfl⟩)
    refine ⟨trivial, ?_⟩
    gi_wp2
    gi_loopw [9] (fun i wr => ∃ k : Nat, s0 ≤ k ∧ k ≤ T.length ∧ i = .int .i64 k ∧ Hid (J ((T.drop s0).take (k - s0)) wr) ∧ KpR n₀ Bo W wr ∧ wr.heap[W.heap.size]? = some (.cells #[.slice pa T.length pcap, .slice none 0 0] 198 (0, 0)))
      (fun i _ => T.length - (intOf i).toNat)
    case atStart => exact ⟨s0, Nat.le_refl _, hsl, rfl, Lib.hid (by simpa using hJ _ _ _ h0 ((Fr.refl _ W).alloc _)), KpR.of_fr ((Fr.refl No W).alloc _) hn (fun _ s => s.elim), heap_alloc_new _ _⟩
    case round =>
      obtain ⟨k, hk1, hk2, rfl, hJs, hKp, hbp⟩ := hrel
      have p0 : wr.cell? ⟨W.heap.size, 0, none⟩ = some (.slice pa T.length pcap) := by simp [World.cell?, hbp]
      have p1 : wr.cell? ⟨W.heap.size, 1, none⟩ = some (.slice none 0 0) := by simp [World.cell?, hbp]
      by_cases hlt : k < T.length
      · obtain ⟨pb, po, rfl⟩ := HA.out (by omega)
        obtain ⟨x, hx⟩ : ∃ x, T[k]? = some x := ⟨_, List.getElem?_eq_getElem hlt⟩
        have hpw : SlF wr 127 2 pairC (.slice (some ⟨pb, po, none⟩) T.length pcap) T := Sl.keep H.out.pairs fun b hb => hKp.low b (HPN.out b hb).1 (HPN.out b hb).2
        have x0 := hpw.cell0 pairC_length k hx rfl
        have x1 := hpw.cell pairC_length k 1 hx rfl
        obtain ⟨fn, tmps, assign, body, hy, hR⟩ := hY (n - 1) _ x wr hJs.out (by simp; omega)
        dsimp only [pairEnc] at hy
        have hkz : (k : Int) < (T.length : Int) := by omega
        have HX := Lib.hid hx
        have hbl2 : n₀ ≤ wr.heap.size := Nat.le_trans hn hKp.size
        clear hx hpw
        have hpbl : pb < wr.heap.size := by have := (HPN.out pb rfl).1; omega
        gi_wp2
        refine ⟨hdd _, hR.mono ?_⟩
        rintro e W3 (⟨rfl, hJ3, hk3⟩ | ⟨rfl, hJx3⟩)
        · have hb3 := (hk3.rows _ _ _ _ hbp (by decide) (by omega)).trans hbp
          have q0 : W3.cell? ⟨W.heap.size, 0, none⟩ = some (.slice (some ⟨pb, po, none⟩) T.length pcap) := by simp [World.cell?, hb3]
          have q1 : W3.cell? ⟨W.heap.size, 1, none⟩ = some (.slice none 0 0) := by simp [World.cell?, hb3]
          have hst : (T.drop s0).take (k - s0) ++ [x] = (T.drop s0).take (k + 1 - s0) := by
            rw [show k + 1 - s0 = (k - s0) + 1 from by omega, List.take_add_one, List.getElem?_drop, show s0 + (k - s0) = k from by omega, HX.out]
            rfl
          have HJ3 := Lib.hid (hst ▸ hJ3)
          clear hJ3 hst hJs p0 p1 x0 x1
          gi_wp2
          refine ⟨trivial, ?_⟩
          gi_wp2
          go_roundw
          case rel => exact ⟨k + 1, by omega, by omega, by go_num, HJ3, hKp.trans hk3, hb3⟩
          case measure => simp [intOf]; omega
        · have hst : (T.drop s0).take (k - s0) ++ [x] = (T.drop s0).take (k + 1 - s0) := by
            rw [show k + 1 - s0 = (k - s0) + 1 from by omega, List.take_add_one, List.getElem?_drop, show s0 + (k - s0) = k from by omega, HX.out]
            rfl
          have HJ3 := Lib.hid (hst ▸ hJx3)
          clear hJx3 hst hJs p0 p1 x0 x1
          gi_wp2
          go_ret
          exact .inr ⟨rfl, _, List.take_prefix _ _, HJ3.out⟩
      · obtain rfl : k = T.length := by omega
        gi_wp2
        go_ret
        exact .inl ⟨rfl, by have := hJs.out; rwa [List.take_of_length_le (by simp)] at this⟩

theorem grown_of_fr {W W' : World} (h : Fr No W W') : W.grownBy W' none := ⟨h.os, h.tape, h.output, h.size, fun k hk _ => h.block k hk id⟩

theorem all1_in (n l t n₀ Bo Bt Bf : Nat) (hBo : Bo < n₀) (nv pv : Value) (T : Pairs) (frm : ByteArray) (J Jx : Pairs → World → Prop) (hT : T.length ≤ 9)
    (hJ : ∀ pre W W', J pre W → Fr No W W' → J pre W')
    (hY : ∀ m pre x W, J pre W → pre.length < T.length → YieldAt Fence.wide m Try.prog l (pairEnc x) W fun e W' =>
      (e = .returned (.bool true) ∧ J (pre ++ [x]) W' ∧ KpR n₀ Bo W W') ∨ (e = .returned (.bool false) ∧ Jx (pre ++ [x]) W'))
    (W : World) (hn : n₀ ≤ W.heap.size) (h : TreeS W t nv pv T) (htn : t < n₀ ∧ t ≠ Bo) (hnn : ∀ b, nv.ownBlock = some b → b < n₀ ∧ b ≠ Bo) (hpn : ∀ b, pv.ownBlock = some b → b < n₀ ∧ b ≠ Bo)
    (hbt : W.cell? ⟨Bt, 0, none⟩ = some (.pointer (some ⟨t, 0, none⟩))) (hbf : W.cell? ⟨Bf, 0, none⟩ = some (.string frm)) (h0 : J [] W) :
    CallsIn Fence.wide n Try.prog 127 #[.func (.yield l) #[] #[], .pointer (some ⟨Bt, 0, none⟩), .pointer (some ⟨Bf, 0, none⟩)] W fun e W' => (∃ v, e = .returned v) ∧
      ((∃ ys, ys = T.drop (spotOf T frm) ∧ J ys W') ∨ (∃ pre, pre <+: T.drop (spotOf T frm) ∧ Jx pre W')) := by
  have c2 := h.obj.cell 2 rfl
  have hw := walk1_in (n - 1) l t n₀ Bo hBo nv pv T frm J Jx T.length (Nat.le_refl _) hT hJ hY W.drew hn ⟨h.obj, h.nodes, h.pairs, h.d1, h.d2, h.d3⟩ htn hnn hpn (hJ _ _ _ h0 (Fr.refl _ _).drew)
  clear hJ hY h h0
  refine callsIn_of_wp Try.func127 rfl trivial ?_ rfl
  simp only [Try.ntmps127, List.size_toArray, List.length_cons, List.length_nil, Nat.reduceAdd, Nat.reduceSub, Array.replicate_succ, Array.replicate_zero, List.push_toArray, List.append_toArray, List.nil_append, List.cons_append]
  gi_wp2
  refine wpIn_region_still_tail 7 (fun _ => trivial) rfl (fun f args w R h => callsIn_wide.2 h) (by kernel_rfl) (by kernel_rfl) ?_
  simp only [List.take_succ_cons, List.take_zero, List.drop_succ_cons, List.drop_zero]
  repeat (refine wpStill_step (fun K hK => ?_); go_simp; (try go_bits); refine hK _ ?_; clear hK K)
  refine wpStill_nil ?_
  gi_wp2_with (refine ⟨trivial, hdd _, ?_⟩; gi_at_call 128; refine hw.mono ?_; clear hw; rintro e W1 (⟨rfl, hJ1⟩ | ⟨rfl, q, hq, hx⟩))
  · go_end0
    exact ⟨⟨_, rfl⟩, .inl ⟨_, rfl, hJ1⟩⟩
  · go_end0
    exact ⟨⟨_, rfl⟩, .inr ⟨q, hq, hx⟩⟩

theorem all1_stops (n t n₀ Bo Bt Bf : Nat) (hBo : Bo < n₀) (nv pv : Value) (T : Pairs) (frm : ByteArray) (hT : T.length ≤ 9)
    (w : World) (hn : n₀ ≤ w.heap.size) (h : TreeS w t nv pv T) (htn : t < n₀ ∧ t ≠ Bo) (hnn : ∀ b, nv.ownBlock = some b → b < n₀ ∧ b ≠ Bo) (hpn : ∀ b, pv.ownBlock = some b → b < n₀ ∧ b ≠ Bo)
    (hbt : w.cell? ⟨Bt, 0, none⟩ = some (.pointer (some ⟨t, 0, none⟩))) (hbf : w.cell? ⟨Bf, 0, none⟩ = some (.string frm)) :
    SeqStopsK Fence.wide n Try.prog 127 #[.pointer (some ⟨Bt, 0, none⟩), .pointer (some ⟨Bf, 0, none⟩)] pairEnc (KpR n₀ Bo) (fun ys => ys = T.drop (spotOf T frm)) (fun pre => pre <+: T.drop (spotOf T frm)) T.length w := fun l J Jx W hW hJ _ hY h0 => by
  have hf : Fr No w W := ⟨hW.os, hW.tape, hW.output, hW.size, fun k hk _ => hW.block k hk⟩
  refine all1_in n l t n₀ Bo Bt Bf hBo nv pv T frm J Jx hT (fun pre A B hA hAB => ?_) (fun m pre x W1 h1 h2 => yield_anyDepth rfl m (hY pre x W1 h1 h2)) W (Nat.le_trans hn hW.size)
    ⟨h.obj.fr hf id, h.nodes.fr0 hf, h.pairs.fr0 hf, h.d1, h.d2, h.d3⟩ htn hnn hpn (hf.cell0 hbt) (hf.cell0 hbf) h0
  exact hJ _ _ _ none hA (grown_of_fr hAB) (fun r e => by cases e)

theorem all_calls (t : Nat) (frm : ByteArray) (w : World) :
    Calls Try.prog 108 #[.pointer (some ⟨t, 0, none⟩), .string frm] w fun e w' => e = .returned (.func (.func 127) #[] #[.pointer (some ⟨w.heap.size, 0, none⟩), .pointer (some ⟨w.heap.size + 1, 0, none⟩)]) ∧
      (w.alloc (.cells #[.pointer (some ⟨t, 0, none⟩)] 118)).alloc (.cells #[.string frm] 9) = w' := by
  have hmf : ∀ (fn : Fn) (first cap : Array Value) (w : World), (Instr.makeFunc fn first cap).run Try.prog w = .ok (.func fn first cap) w := fun _ _ _ _ => rfl
  go_enter Try.func108, Try.ntmps108
  go_wp2
  go_ret
  exact ⟨rfl, rfl⟩

/-- The boxes of 'Range' and what has been gathered. -/
structure RgI (w : World) (to : ByteArray) (most : Nat) (n₀ : Nat) (out : Pairs) (W : World) : Prop where
  b0 : W.heap[w.heap.size]? = some (.cells #[Value.string to] 9 (0, 0))
  b1 : W.heap[w.heap.size + 1]? = some (.cells #[Value.int .i64 (most : Int)] 3 (0, 0))
  b2 : ∃ v, W.heap[w.heap.size + 1 + 1]? = some (.cells #[v] 124 (0, 0)) ∧ SlF W 127 2 pairC v out ∧ ∀ b, v.ownBlock = some b → n₀ ≤ b
  below : Below w.heap.size w W
  size : n₀ ≤ W.heap.size
theorem RgI.own {w : World} {to : ByteArray} {most n₀ : Nat} {out : Pairs} {W W' : World} {row : Option Nat} (h : RgI w to most n₀ out W) (hn : w.heap.size ≤ n₀) (hg : W.grownBy W' row) (hr : ∀ r, row = some r → n₀ ≤ r ∧ ∃ o : Obj, W.heap[r]? = some o ∧ o.isCells = false) : RgI w to most n₀ out W' := by
  have key : ∀ (k : Nat) (c : Array Value) (e : TypeId) (fr : Nat × Nat), W.heap[k]? = some (.cells c e fr) → W'.heap[k]? = W.heap[k]? := fun k c e fr hk =>
    hg.block k (heap_lt hk) fun e' => by obtain ⟨_, o, ho, hc⟩ := hr k e'.symm; rw [hk] at ho; cases ho; cases hc
  obtain ⟨v, h2, h3, h4⟩ := h.b2
  refine ⟨(key _ _ _ _ h.b0).trans h.b0, (key _ _ _ _ h.b1).trans h.b1, ⟨v, (key _ _ _ _ h2).trans h2, ?_, h4⟩, h.below.grown hg h.below.size fun k hk => Nat.le_trans hn (hr k hk).1, Nat.le_trans h.size hg.size⟩
  refine Sl.keep h3 fun k hk => ?_
  rcases h3.2 with ⟨rfl, _⟩ | ⟨g, o, cap, cur, rfl, hgg, _⟩
  · simp [Value.ownBlock] at hk
  · obtain rfl : g = k := by simpa [Value.ownBlock] using hk
    exact key _ _ _ _ hgg
theorem RgI.fr {w : World} {to : ByteArray} {most n₀ : Nat} {out : Pairs} {W W' : World} (h : RgI w to most n₀ out W) (hf : Fr No W W') : RgI w to most n₀ out W' := by
  obtain ⟨v, h2, h3, h4⟩ := h.b2
  exact ⟨hf.heap h.b0 id, hf.heap h.b1 id, ⟨v, hf.heap h2 id, h3.fr0 hf, h4⟩, h.below.trans (hf.below0.mono h.below.size), Nat.le_trans h.size hf.size⟩

theorem RgI.grow {w : World} {to : ByteArray} {most n₀ : Nat} {pre : Pairs} {x : ByteArray × Int} {W w1 : World} {v : Value} {ob : Obj} {g o cap : Nat} (h : RgI w to most n₀ pre W) (hn : w.heap.size + 1 + 1 < n₀)
    (c2 : W.heap[w.heap.size + 1 + 1]? = some (.cells #[v] 124 (0, 0))) (hv : SlF W 127 2 pairC v pre) (hvn : ∀ b, v.ownBlock = some b → n₀ ≤ b)
    (hs1 : SlF w1 127 2 pairC (.slice (some ⟨g, o, none⟩) (pre.length + 1) cap) (pre ++ [x])) (hg1 : (W.alloc ob).grownBy w1 v.ownBlock) (hb1 : v.ownBlock = some g ∨ g = W.heap.size + 1) :
    w1.heap[w.heap.size + 1 + 1]? = some (.cells #[v] 124 (0, 0)) ∧
    RgI w to most n₀ (pre ++ [x]) (w1.setCell ⟨w.heap.size + 1 + 1, 0, none⟩ (.slice (some ⟨g, o, none⟩) (pre.length + 1) cap)) ∧
    KeepsFrom n₀ W (w1.setCell ⟨w.heap.size + 1 + 1, 0, none⟩ (.slice (some ⟨g, o, none⟩) (pre.length + 1) cap)) ∧
    KpR n₀ (w.heap.size + 1 + 1) W (w1.setCell ⟨w.heap.size + 1 + 1, 0, none⟩ (.slice (some ⟨g, o, none⟩) (pre.length + 1) cap)) := by
  have hF : Fr (fun b => v.ownBlock = some b) W w1 := (((Fr.refl _ W).alloc _).grown hg1 fun k hk => .inl hk)
  have hFS : Fr (fun b => v.ownBlock = some b ∨ b = w.heap.size + 1 + 1) W (w1.setCell ⟨w.heap.size + 1 + 1, 0, none⟩ (.slice (some ⟨g, o, none⟩) (pre.length + 1) cap)) :=
    (hF.mono fun _ _ h => .inl h).setCell (p := ⟨w.heap.size + 1 + 1, 0, none⟩) (.inl (.inr rfl)) _
  have hno : ∀ k, k < n₀ → ¬ v.ownBlock = some k := fun k hk e => by have := hvn k e; omega
  have e2 := hF.heap c2 (hno _ hn)
  have hgn : n₀ ≤ g := by
    rcases hb1 with e | e
    · exact hvn g e
    · have := h.size; omega
  have hvc : ∀ k, v.ownBlock = some k → ∃ c fr, W.heap[k]? = some (.cells c 127 fr) := by
    intro k hk
    rcases hv.2 with ⟨rfl, _⟩ | ⟨g', o', cap', cur, rfl, hgg, _⟩
    · simp [Value.ownBlock] at hk
    · obtain rfl : g' = k := by simpa [Value.ownBlock] using hk
      exact ⟨_, _, hgg⟩
  refine ⟨e2, ⟨?_, ?_, ?_, ?_, ?_⟩, ⟨by simpa using hF.size, ?_⟩, KpR.of_fr hFS h.size ?_⟩
  · exact hFS.heap h.b0 (by rintro (e | e); exact hno _ (by omega) e; omega)
  · exact hFS.heap h.b1 (by rintro (e | e); exact hno _ (by omega) e; omega)
  · refine ⟨_, heap_setCell_same e2 0 _, hs1.other _ _ ?_, fun b hb => ?_⟩
    · simp only [Value.ownBlock, ne_eq, Option.some.injEq]; omega
    · obtain rfl : g = b := by simpa [Value.ownBlock] using hb
      exact hgn
  · exact h.below.trans (hFS.below w.heap.size h.below.size (by rintro k (e | e); have := hvn k e; omega; omega))
  · have := hF.size; have := h.size; simp; omega
  · intro k o' hk ho hc
    refine hFS.heap ho ?_
    rintro (e | e)
    · obtain ⟨c, fr, e'⟩ := hvc k e; rw [ho] at e'; cases e'; cases hc
    · omega
  · rintro k (e | e)
    · right; exact ⟨hvn k e, hvc k e⟩
    · left; exact e

theorem info127' : (Try.prog.info? 127).map (fun i => (i.zero, i.size, i.bytes)) = some (some (.agg #[.string ByteArray.empty, .int .i64 0]), 2, 24) := by kernel_rfl

set_option maxHeartbeats 1000000 in
theorem Range1_in (n : Nat) (hn : 6 ≤ n) (w : World) (t : Nat) (nv pv : Value) (T : Pairs) (frm to : ByteArray) (h : TreeS w t nv pv T) (hs : Sorted T) (hT : T.length ≤ 9) (hpos : 0 < T.length) :
    CallsIn Fence.wide n Try.prog 69 #[.pointer (some ⟨t, 0, none⟩), .string frm, .string to, .int .i64 T.length] w fun e w' =>
      ∃ v, e = .returned v ∧ SlF w' 127 2 pairC v (rangeT T frm to) ∧ Below w.heap.size w w' ∧ (∀ b, v.ownBlock = some b → w.heap.size ≤ b) := by
  have h1 : 1 ≤ n := by omega
  have H := Lib.hid h; clear h
  have hTz : ¬ (T.length : Int) < 1 := by omega
  refine callsIn_of_wp_marks Try.func69 rfl trivial ?_ rfl
  simp only [Try.ntmps69, List.size_toArray, List.length_cons, List.length_nil, Nat.reduceAdd, Nat.reduceSub, Array.replicate_succ, Array.replicate_zero, List.push_toArray, List.append_toArray, List.nil_append, List.cons_append]
  gi_wp2_with (refine ⟨trivial, ?_⟩; gi_at_call 108; refine (callsIn_wide.2 (all_calls _ _ _)).mono ?_; rintro e w' ⟨rfl, rfl⟩)
  obtain ⟨W0, hW0⟩ : ∃ W0, (((((w.alloc (Obj.cells #[Value.string to] 9)).alloc (Obj.cells #[Value.int IntKind.i64 (T.length : Int)] 3)).alloc (Obj.cells #[Value.slice none 0 0] 124)).alloc
      (Obj.cells #[Value.pointer (some { block := t, off := 0 })] 118)).alloc (Obj.cells #[Value.string frm] 9)) = W0 := ⟨_, rfl⟩
  have hsz : W0.heap.size = w.heap.size + 5 := by rw [← hW0]; simp
  have b0 : W0.heap[w.heap.size]? = some (.cells #[Value.string to] 9 (0, 0)) := by rw [← hW0]; exact alloc_old (alloc_old (alloc_old (alloc_old (alloc_at _ _ _ rfl) _) _) _) _
  have b1 : W0.heap[w.heap.size + 1]? = some (.cells #[Value.int .i64 (T.length : Int)] 3 (0, 0)) := by rw [← hW0]; exact alloc_old (alloc_old (alloc_old (alloc_at _ _ _ (by simp)) _) _) _
  have b2 : W0.heap[w.heap.size + 1 + 1]? = some (.cells #[Value.slice none 0 0] 124 (0, 0)) := by rw [← hW0]; exact alloc_old (alloc_old (alloc_at _ _ _ (by simp)) _) _
  have b3 : W0.heap[w.heap.size + 1 + 1 + 1]? = some (.cells #[Value.pointer (some { block := t, off := 0 })] 118 (0, 0)) := by rw [← hW0]; exact alloc_old (alloc_at _ _ _ (by simp)) _
  have b4 : W0.heap[w.heap.size + 1 + 1 + 1 + 1]? = some (.cells #[Value.string frm] 9 (0, 0)) := by rw [← hW0]; exact alloc_at _ _ _ (by simp)
  have hF0 : Fr No w W0 := by rw [← hW0]; exact (((((Fr.refl No w).alloc _).alloc _).alloc _).alloc _).alloc _
  simp only [hW0]
  clear hW0
  have hTW : TreeS W0 t nv pv T := ⟨H.out.obj.fr hF0 id, H.out.nodes.fr0 hF0, H.out.pairs.fr0 hF0, H.out.d1, H.out.d2, H.out.d3⟩
  have htl := H.out.obj.lt
  obtain ⟨i0, hi0, hz0, hz1, hz2⟩ := info_parts info127'
  refine wpIn_rangeFunc_ownH rfl h1 (gf := 127) (lb := #[.pointer (some ⟨w.heap.size + 1 + 1 + 1, 0, none⟩), .pointer (some ⟨w.heap.size + 1 + 1 + 1 + 1, 0, none⟩)]) rfl trivial (enters_of Try.func127 (by kernel_rfl) rfl)
    (all1_stops (n - 1) t W0.heap.size (w.heap.size + 1 + 1) (w.heap.size + 1 + 1 + 1) (w.heap.size + 1 + 1 + 1 + 1) (by omega) nv pv T frm hT W0 (Nat.le_refl _) hTW ⟨by omega, by omega⟩
      (fun b hb => by have := H.out.nodes.lt b hb; omega) (fun b hb => by have := H.out.pairs.lt b hb; omega) (by simp [World.cell?, b3]) (by simp [World.cell?, b4]))
    KpR.trans (KpR.putObj (Nat.le_refl _)) (Below.refl _ _) (fun _ => rfl)
    (fun pre W => RgI w to T.length W0.heap.size pre W ∧ Hid ((∀ x ∈ pre, ahead to x = true) ∧ pre.length < T.length))
    (fun c pre W => match c with
      | .exit id => id = 0 ∧ ∃ out, RgI w to T.length W0.heap.size out W ∧ Hid ((∃ x, pre = out ++ [x] ∧ (∀ y ∈ out, ahead to y = true) ∧ ahead to x = false) ∨ (out = pre ∧ (∀ y ∈ out, ahead to y = true) ∧ out.length = T.length))
      | _ => False)
    (fun s W W' row hs hg hr => ⟨hs.1.own (by omega) hg hr, hs.2⟩)
    (fun c s W W' row hs hg hr => by
      cases c with
      | exit id => obtain ⟨h1, out, h2, h3⟩ := hs; exact ⟨h1, out, h2.own (by omega) hg hr, h3⟩
      | _ => exact hs.elim)
    ⟨⟨b0, b1, ⟨_, b2, SlF.nil _ _ _ _, by simp [Value.ownBlock]⟩, hF0.below0, Nat.le_refl _⟩, Lib.hid ⟨by simp, by simpa using hpos⟩⟩
    (fun x a' W => ∃ Bx, W0.heap.size ≤ Bx ∧ W.heap[Bx]? = some (.cells #[.string x.1, .int .i64 x.2] 127 (0, 0)) ∧ a' = ⟨#[.pointer (some ⟨t, 0, none⟩), .string frm, .string to, .int .i64 T.length, undef, undef, .pointer (some ⟨w.heap.size, 0, none⟩), .pointer (some ⟨w.heap.size + 1, 0, none⟩), .slice none 0 0, .pointer (some ⟨w.heap.size + 1 + 1, 0, none⟩), .pointer (some ⟨Bx, 0, none⟩), .int .i64 T.length, .bool false, .pointer (some ⟨t, 0, none⟩), .string frm, .func (.func 127) #[] #[.pointer (some ⟨w.heap.size + 1 + 1 + 1, 0, none⟩), .pointer (some ⟨w.heap.size + 1 + 1 + 1 + 1, 0, none⟩)], .agg #[.string x.1, .int .i64 x.2], undef, undef, undef, undef, undef, undef, undef, undef, undef, undef, undef, undef, undef, undef, undef, undef, undef], []⟩)
    (fun x a' s W W' row hs hg hr => by
      obtain ⟨Bx, h1, h2, h3⟩ := hs
      exact ⟨Bx, h1, (hg.block Bx (heap_lt h2) fun e' => by obtain ⟨_, o, ho, hc⟩ := hr Bx e'.symm; rw [h2] at ho; cases ho; cases hc).trans h2, h3⟩)
    ?assign ?body ?done ?stop
  case assign =>
    rintro l pre x W K ⟨hI, hpre⟩ hK
    have hK' := Lib.hid hK
    clear hK
    dsimp only [pairEnc]
    gi_wp2
    exact hK'.out _ _ ((KeepsOthers.alloc _ _).from _) (KpR.of_fr ((Fr.refl No W).alloc _) hI.size fun _ s => s.elim) ⟨hI.fr ((Fr.refl _ _).alloc _), hpre⟩ ⟨W.heap.size, hI.size, heap_alloc_new _ _, rfl⟩
  case body =>
    rintro l pre x a' W hl ⟨r, hr⟩ ⟨hI, hpre⟩ ⟨Bx, hBx, bX, rfl⟩ hlt
    obtain ⟨v, c2, hv, hvn⟩ := hI.b2
    obtain ⟨va, vcap, rfl, _, _, _⟩ := hv.shape
    have x0 : W.cell? ⟨Bx, 0, none⟩ = some (.string x.1) := by simp [World.cell?, bX]
    have x1 : W.cell? ⟨Bx, 1, none⟩ = some (.int .i64 x.2) := by simp [World.cell?, bX]
    have y0 : W.cell? ⟨w.heap.size, 0, none⟩ = some (.string to) := by simp [World.cell?, hI.b0]
    have y1 : W.cell? ⟨w.heap.size + 1, 0, none⟩ = some (.int .i64 T.length) := by simp [World.cell?, hI.b1]
    have y2 : W.cell? ⟨w.heap.size + 1 + 1, 0, none⟩ = some (.slice va pre.length vcap) := by simp [World.cell?, c2]
    have HP := hpre
    have hpl := hpre.out.2
    have hnew := cells_new W [.string x.1, .int .i64 x.2] 127 (0, 0)
    have hBl := heap_lt bX
    have hsl : w.heap.size + 1 + 1 < W.heap.size := heap_lt c2
    have HI := Lib.hid hI
    clear hI hpre
    by_cases hah : ahead to x = true
    · have hcs : to.toList.isEmpty = true ∨ (to.toList.isEmpty = false ∧ Op.bytesLess x.1.toList to.toList = true) := by
        unfold ahead klt at hah
        cases h0 : to.toList.isEmpty
        · right; refine ⟨rfl, ?_⟩; simpa [h0] using hah
        · left; rfl
      have HAH := Lib.hid hah
      clear hah
      by_cases hlast : pre.length + 1 = T.length
      · have hd : ((pre.length : Int) + 1 == (T.length : Int)) = true := by simp; omega
        have HLAST := Lib.hid hlast
        clear hlast
        rcases hcs with he | ⟨he, hk⟩
        all_goals
          gi_wp2_with (gi_at_builtin; refine wpListIn_append_f rfl _ _ 124 rfl 127 i0 _ 2 24 Try.underlying124 hi0 hz0 hz1 hz2 rfl (by decide) (.slice va pre.length vcap) pre rfl (hv.alloc _) W.heap.size 1 x rfl (by simpa [pairC] using hnew) rfl (by intro u hu; simp [pairC] at hu; rcases hu with rfl | rfl <;> rfl) (by unfold maxLen; omega) (by omega) ?_)
          intro g o' cap w1 hs1 hg1 hb1 hlt1
          obtain ⟨e2, G1, G2, G3⟩ := RgI.grow HI.out (by omega) c2 hv hvn hs1 hg1 (by simpa using hb1)
          have z2 : w1.cell? ⟨w.heap.size + 1 + 1, 0, none⟩ = some (.slice va pre.length vcap) := by simp [World.cell?, e2]
          have zf : w1.frozen? ⟨w.heap.size + 1 + 1, 0, none⟩ = false := by simp [World.frozen?, e2]
          have HF : Fr (fun b => (Value.slice va pre.length vcap).ownBlock = some b) W w1 := (((Fr.refl _ W).alloc _).grown hg1 fun k hk => .inl hk)
          have z1 := HF.cell y1 (fun e => by have := hvn _ e; simp at this; omega)
          have HG := Lib.hid (And.intro G1 (And.intro G2 G3))
          clear hs1 hg1 hb1 G1 G2 G3 HF hnew e2
          gi_wp2
          have hall : ∀ y ∈ pre ++ [x], ahead to y = true := by
            intro y hy
            rcases List.mem_append.1 hy with h | h
            · exact HP.out.1 y h
            · simp at h; subst h; exact HAH.out
          exact ⟨HG.out.2.1, rfl, _, HG.out.1, Lib.hid (.inr ⟨rfl, hall, by simpa using HLAST.out⟩)⟩
      · have hd : ((pre.length : Int) + 1 == (T.length : Int)) = false := by simp; omega
        rcases hcs with he | ⟨he, hk⟩
        all_goals
          gi_wp2_with (gi_at_builtin; refine wpListIn_append_f rfl _ _ 124 rfl 127 i0 _ 2 24 Try.underlying124 hi0 hz0 hz1 hz2 rfl (by decide) (.slice va pre.length vcap) pre rfl (hv.alloc _) W.heap.size 1 x rfl (by simpa [pairC] using hnew) rfl (by intro u hu; simp [pairC] at hu; rcases hu with rfl | rfl <;> rfl) (by unfold maxLen; omega) (by omega) ?_)
          intro g o' cap w1 hs1 hg1 hb1 hlt1
          obtain ⟨e2, G1, G2, G3⟩ := RgI.grow HI.out (by omega) c2 hv hvn hs1 hg1 (by simpa using hb1)
          have z2 : w1.cell? ⟨w.heap.size + 1 + 1, 0, none⟩ = some (.slice va pre.length vcap) := by simp [World.cell?, e2]
          have zf : w1.frozen? ⟨w.heap.size + 1 + 1, 0, none⟩ = false := by simp [World.frozen?, e2]
          have HF : Fr (fun b => (Value.slice va pre.length vcap).ownBlock = some b) W w1 := (((Fr.refl _ W).alloc _).grown hg1 fun k hk => .inl hk)
          have z1 := HF.cell y1 (fun e => by have := hvn _ e; simp at this; omega)
          have HG := Lib.hid (And.intro G1 (And.intro G2 G3))
          clear hs1 hg1 hb1 G1 G2 G3 HF hnew e2
          gi_wp2
          have hall : ∀ y ∈ pre ++ [x], ahead to y = true := by
            intro y hy
            rcases List.mem_append.1 hy with h | h
            · exact HP.out.1 y h
            · simp at h; subst h; exact HAH.out
          exact ⟨HG.out.2.1, HG.out.2.2, HG.out.1, Lib.hid ⟨hall, by simp; omega⟩⟩
    · simp only [Bool.not_eq_true] at hah
      have HAH := Lib.hid hah
      have hcs : to.toList.isEmpty = false ∧ Op.bytesLess x.1.toList to.toList = false := by
        unfold ahead klt at hah
        simpa using hah
      obtain ⟨he, hk⟩ := hcs
      clear hah
      gi_wp2
      exact ⟨KeepsFrom.refl _ _, rfl, pre, HI.out, Lib.hid (.inl ⟨x, rfl, HP.out.1, HAH.out⟩)⟩
  case done =>
    rintro D xs W hD rfl ⟨hI, hpre⟩ hK
    obtain ⟨v, c2, hv, hvn⟩ := hI.b2
    have y2 : W.cell? ⟨w.heap.size + 1 + 1, 0, none⟩ = some v := by simp [World.cell?, c2]
    have hr : Hid (rangeT T frm to = T.drop (spotOf T frm)) := Lib.hid (by rw [rangeT_eq T hs]; exact takeWhile_all hpre.out.1)
    gi_wp2
    refine ⟨by simp, .inl ⟨_, _, rfl, run_takeDeferred hK, ?_⟩⟩
    have hg := grownBy_putObj' W D (.deferred none)
    refine ⟨_, results_tmp rfl _ _ _, v, rfl, ?_, hI.below.grown hg hI.below.size (fun k e => by cases e; omega), fun b hb => by have := hvn b hb; omega⟩
    rw [hr.out]
    refine Sl.keep hv fun k hk => hg.block k (hv.lt k hk) fun e => ?_
    cases e
    rcases hv.2 with ⟨rfl, _⟩ | ⟨g', o', cap', cur, rfl, hgg, _⟩
    · simp [Value.ownBlock] at hk
    · obtain rfl : g' = D := by simpa [Value.ownBlock] using hk
      rw [hgg] at hK; cases hK
  case stop =>
    rintro D c pre W hD hSp hIx hK
    cases c with
    | exit id =>
      obtain ⟨rfl, out, hI, HO⟩ := hIx
      obtain ⟨v, c2, hv, hvn⟩ := hI.b2
      have y2 : W.cell? ⟨w.heap.size + 1 + 1, 0, none⟩ = some v := by simp [World.cell?, c2]
      have hr : Hid (rangeT T frm to = out) := Lib.hid (by
        rw [rangeT_eq T hs]
        rcases HO.out with ⟨x, rfl, h1, h2⟩ | ⟨rfl, h1, h2⟩
        · obtain ⟨rest, hrest⟩ := hSp
          exact takeWhile_stop (r := rest) (by rw [← hrest]; simp) h1 h2
        · obtain ⟨rest, hrest⟩ := hSp
          have hl := congrArg List.length hrest
          simp at hl
          obtain rfl : rest = [] := List.eq_nil_of_length_eq_zero (by omega)
          rw [← hrest, List.append_nil]
          exact takeWhile_all h1)
      gi_wp2
      refine ⟨by simp, .inl ⟨_, _, rfl, run_takeDeferred hK, ?_⟩⟩
      have hg := grownBy_putObj' W D (.deferred none)
      refine ⟨_, results_tmp rfl _ _ _, v, rfl, ?_, hI.below.grown hg hI.below.size (fun k e => by cases e; omega), fun b hb => by have := hvn b hb; omega⟩
      rw [hr.out]
      refine Sl.keep hv fun k hk => hg.block k (hv.lt k hk) fun e => ?_
      cases e
      rcases hv.2 with ⟨rfl, _⟩ | ⟨g', o', cap', cur, rfl, hgg, _⟩
      · simp [Value.ownBlock] at hk
      · obtain rfl : g' = D := by simpa [Value.ownBlock] using hk
        rw [hgg] at hK; cases hK
    | _ => exact hIx.elim
end Go.Proofs.Ythljnnjpmdgkoaa

namespace Go.Proofs.Ythljnnjpmdgkoaa
open Go Go.RowKit

theorem run_copy_sl {P : Program} (w : World) (dT sT ty elem : TypeId) (i : TypeInfo) (dp sp : Option Addr) (dLen dCap sLen sCap g o : Nat) (cur : Array Value) (t : TypeId) (cs : List Value)
    (hu : P.underlying dT = some (.slice elem)) (hi : P.info? elem = some i) (hg : w.heap[g]? = some (.cells cur t (0, 0))) (hn : cs.length = Nat.min sLen dLen * i.size)
    (hpos : 0 < cs.length → dp = some ⟨g, o, none⟩ ∧ ∃ ad, sp = some ad ∧ ∀ j v, cs[j]? = some v → w.cell? (ad.add j) = some v) (hfit : o + cs.length ≤ cur.size) (h1 : ∀ v ∈ cs, v.oneCell' = true) :
    ∃ w', (Builtin.copy_ #[dT, sT] ty #[.slice dp dLen dCap, .slice sp sLen sCap]).run P w = .ok (goInt (Nat.min sLen dLen)) w' ∧
      w'.heap[g]? = some (.cells (cur.toList.take o ++ cs ++ cur.toList.drop (o + cs.length)).toArray t (0, 0)) ∧ w.grownBy w' (some g) := by
  by_cases h0 : cs.length = 0
  · obtain rfl : cs = [] := List.eq_nil_of_length_eq_zero h0
    refine ⟨w, ?_, by simpa using hg, ⟨rfl, rfl, rfl, Nat.le_refl _, fun _ _ _ => rfl⟩⟩
    have hz : Nat.min sLen dLen * i.size = 0 := by simpa using hn.symm
    cases sp <;> cases dp <;> simp [Builtin.copy_, run_underlying hu, Builtin.lenOf, Builtin.firstCells, sizeOf, typeInfo, hi, hz, storeCells, loadCells, loadCellsFrom]
  · obtain ⟨rfl, ad, rfl, hsrc⟩ := hpos (by omega)
    have hl := run_loadCells_list (P := P) w ad cs hsrc
    have hst := run_storeCells_at P g o t cs 0 cur w hg (by simpa using hfit) h1
    refine ⟨w.setRow g (cur.toList.take o ++ cs ++ cur.toList.drop (o + cs.length)).toArray, ?_, setRow_heap w g cur _ t _ hg, ⟨rfl, rfl, rfl, by simp, fun k _ hk => setRow_other w g k _ (fun e => hk (by rw [e]))⟩⟩
    simp [Builtin.copy_, run_underlying hu, Builtin.lenOf, Builtin.firstCells, sizeOf, typeInfo, hi, ← hn, hl, hst]

theorem wpList_copy_sl {P : Program} {w : World} {ops : Array Oper} {rest : List Oper} {op : Oper} {a : Act} {Q : Exit → Act → World → Prop} (hgd : op.guard = none) (d s : Operand) (dT sT elem : TypeId) (i : TypeInfo)
    (ho : op.op = .call { callee := .builtin .copy, args := #[d, s], argTypes := #[dT, sT] }) (hu : P.underlying dT = some (.slice elem)) (hi : P.info? elem = some i)
    (dp sp : Option Addr) (dLen dCap sLen sCap g o : Nat) (cur : Array Value) (t : TypeId) (cs : List Value) (hd : a.eval d = .slice dp dLen dCap) (hs : a.eval s = .slice sp sLen sCap)
    (hg : w.heap[g]? = some (.cells cur t (0, 0))) (hn : cs.length = Nat.min sLen dLen * i.size)
    (hpos : 0 < cs.length → dp = some ⟨g, o, none⟩ ∧ ∃ ad, sp = some ad ∧ ∀ j v, cs[j]? = some v → w.cell? (ad.add j) = some v) (hfit : o + cs.length ≤ cur.size) (h1 : ∀ v ∈ cs, v.oneCell' = true)
    (h : ∀ w', w'.heap[g]? = some (.cells (cur.toList.take o ++ cs ++ cur.toList.drop (o + cs.length)).toArray t (0, 0)) → w.grownBy w' (some g) → wpList P ops Q rest (a.put op.dst (goInt (Nat.min sLen dLen))) w') : wpList P ops Q (op :: rest) a w := by
  refine wpList_plain hgd fun _ hK => ?_
  obtain ⟨w', hr, h2, h3⟩ := run_copy_sl (P := P) w dT sT op.type elem i dp sp dLen dCap sLen sCap g o cur t cs hu hi hg hn hpos hfit h1
  unfold Oper.wp execOp
  simp only [ho, resolve, invoke, builtin, Sem.run_bind, Sem.run_pure, Result.andThen_ok, List.map_toArray, List.map_cons, List.map_nil, hd, hs, hr]
  exact hK _ _ (h w' h2 h3)

/-- copy inside one slice, from place j to place k, of m elements: the list behind it. -/
theorem SlF.copied {α : Type} {f : α → List Value} {w w' : World} {e sz g o cap : Nat} {L : List α} (hf : ∀ x, (f x).length = sz) (h : SlF w e sz f (.slice (some ⟨g, o, none⟩) L.length cap) L) (j k m : Nat) (hj : j + m ≤ L.length) (hk : k + m ≤ L.length)
    (cur : Array Value) (hg : w.heap[g]? = some (.cells cur e (0, 0)))
    (hg' : w'.heap[g]? = some (.cells (cur.toList.take (o + k * sz) ++ (((L.drop j).take m).flatMap f) ++ cur.toList.drop (o + k * sz + m * sz)).toArray e (0, 0))) :
    SlF w' e sz f (.slice (some ⟨g, o, none⟩) L.length cap) (L.take k ++ (L.drop j).take m ++ L.drop (k + m)) := by
  have hlen : (L.take k ++ (L.drop j).take m ++ L.drop (k + m)).length = L.length := by simp; omega
  unfold SlF
  rw [hlen]
  refine ⟨by rw [flat_length hf, hlen], ?_⟩
  rcases h.2 with ⟨h0, _⟩ | ⟨g', o', cap', cur', hv, hc, h1, h2, h3, h4⟩
  · cases h0
  · cases hv
    rw [hg] at hc
    cases hc
    have hL : L.length * sz ≤ cap * sz := Nat.mul_le_mul_right _ h1
    have hkm : k * sz + m * sz ≤ L.length * sz := by rw [← Nat.add_mul]; exact Nat.mul_le_mul_right _ hk
    have hml : (((L.drop j).take m).flatMap f).length = m * sz := by rw [flat_length hf]; congr 1; simp; omega
    have hcl : cur.toList.length = cur.size := by simp
    refine .inr ⟨g, o, cap, _, rfl, hg', h1, h2, ?_, ?_⟩
    · simp only [List.size_toArray, List.length_append, List.length_take, List.length_drop, hml, hcl]
      omega
    · have e1 : (cur.toList.take (o + k * sz)).drop o = (L.take k).flatMap f := by
        rw [← flat_take hf, ← h4, List.drop_take, List.take_take]
        congr 1
        omega
      have e2 : (cur.toList.drop (o + k * sz + m * sz)).take (L.length * sz - (k * sz + m * sz)) = (L.drop (k + m)).flatMap f := by
        have : (L.flatMap f).drop ((k + m) * sz) = (L.drop (k + m)).flatMap f := by
          have h5 := congrArg (fun l => List.flatMap f l) (List.take_append_drop (k + m) L)
          simp only [List.flatMap_append] at h5
          rw [← h5, ← flat_take hf, List.drop_append_of_le_length (by rw [List.length_take, flat_length hf, Nat.add_mul]; omega), List.drop_eq_nil_of_le (by rw [List.length_take]; omega), List.nil_append]
        rw [← this, ← h4, List.drop_take, List.drop_drop, Nat.add_mul]
        congr 2
        omega
      show (((cur.toList.take (o + k * sz) ++ (((L.drop j).take m).flatMap f) ++ cur.toList.drop (o + k * sz + m * sz)).drop o).take (L.length * sz)) = _
      rw [List.append_assoc, List.drop_append_of_le_length (by simp; omega), e1]
      rw [List.flatMap_append, List.flatMap_append, List.append_assoc]
      have e3 : ((L.take k).flatMap f).length = k * sz := by rw [flat_length hf]; congr 1; simp; omega
      have e4 : L.length * sz = ((L.take k).flatMap f).length + ((((L.drop j).take m).flatMap f).length + (L.length * sz - (k * sz + m * sz))) := by rw [e3, hml]; omega
      rw [e4, List.take_length_add_append, List.take_length_add_append, e2]
end Go.Proofs.Ythljnnjpmdgkoaa
