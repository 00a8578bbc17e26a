/- Lemmas for the claim. Conditions stand in each. -/
import Derived.Test.YthljnnjpmdgkoaaGreatG02
import Derived.Test.YthljnnjpmdgkoaaGreatG00
import Derived.RangeFuncNested
import Derived.RangeFuncBound
import Derived.RangeFuncCalls
import Derived.RangeFuncLeaves
import Derived.RangeFuncBox
import Derived.RangeFuncWrites
import Derived.Shelf.Abstract
import Derived.OwnWalkIn
import Derived.TacticsInMore
import Derived.LoopNIn
import Derived.LoopIn
import Derived.StillTailTactics
import Derived.Test.YthljnnjpmdgkoaaGreatProg
import Derived.Outline
namespace Go.Proofs.YthljnnjpmdgkoaaGreat
open Go Go.Proofs Go.RowKit Go.Shelf
set_option maxRecDepth 100000
attribute [local go_sem] Oper.semAt_some
theorem zlh {F : Fence} (hd : F.depth = none) (k : Nat) : F.room k := fun d h => by rw [hd] at h; cases h
theorem zin {F : Fence} (hd : F.depth = none) {m : Nat} (m' : Nat) {P : Program} {l : Nat} {args : Array Value} {W : World} {R : Ending → World → Prop} (h : YieldAt F m P l args W R) : YieldAt F m' P l args W R := by
 obtain ⟨fn, tmps, assign, body, hy, hR⟩ := h; exact ⟨fn, tmps, assign, body, hy, hR.1, fun c cs _ => hR.2 c cs (zlh hd _)⟩
def zdu (x : ByteArray × Int) : Array Value := #[.agg #[.string x.1, .int .i64 x.2]]
structure KpR (n₀ Bo : Nat) (A B : World) : Prop where
 size : A.heap.size ≤ B.heap.size
 low : ∀ k, k < n₀ → k ≠ Bo → B.heap[k]? = A.heap[k]?
 rows : ∀ (k : Nat) c e fr, A.heap[k]? = some (.cells c e fr) → e ≠ 122 → k ≠ Bo → B.heap[k]? = A.heap[k]?
theorem KpR.trans {n₀ Bo : Nat} {A B C : World} (h : KpR n₀ Bo A B) (k : KpR n₀ Bo B C) : KpR n₀ Bo A C :=
 ⟨Nat.le_trans h.size k.size, fun i hi hb => (k.low i hi hb).trans (h.low i hi hb), fun i c e fr hi he hb => (k.rows i c e fr ((h.rows i c e fr hi he hb).trans hi) he hb).trans (h.rows i c e fr hi he hb)⟩
theorem KpR.putObj {n₀ Bo : Nat} {w : World} (hn : n₀ ≤ w.heap.size) (W : World) (l : Nat) (o o' : Obj) (hl : w.heap.size ≤ l) (h : W.heap[l]? = some o) (hc : o.isCells = false) (_ : o.isWalk = false) : KpR n₀ Bo W (W.putObj l o') :=
 ⟨by simp, fun k hk _ => World.putObj_heap_other (by omega), fun k c e fr hk _ _ => World.putObj_heap_other (by rintro rfl; rw [h] at hk; cases hk; cases hc)⟩
theorem KpR.of_fr {n₀ Bo : Nat} {A B : World} {S : Nat → Prop} (h : Fr S A B) (hn : n₀ ≤ A.heap.size) (hS : ∀ k, S k → k = Bo ∨ (n₀ ≤ k ∧ ∃ c fr, A.heap[k]? = some (.cells c 122 fr))) : KpR n₀ Bo A B :=
 ⟨h.size, fun k hk hb => h.block k (by omega) fun s => by rcases hS k s with e | ⟨e, _⟩ <;> omega,
   fun k c e fr hk he hb => h.block k (zaa hk) fun s => by
    rcases hS k s with e' | ⟨_, c', fr', e'⟩
    · exact hb e'
    rw [hk] at e'; cases e'; exact he rfl⟩
theorem hdd (k : Nat) : (Fence.wide.depth.isSome = true → 1 ≤ k) := fun h => by cases h
theorem znw {W W' : World} (h : Fr No W W') : W.grownBy W' none := ⟨h.os, h.tape, h.output, h.size, fun k hk _ => h.block k hk id⟩
theorem zui (t : Nat) (frm : ByteArray) (w : World) :
 Calls Tryz.prog 114 #[.pointer (some ⟨t, 0, none⟩), .string frm] w fun e w' => e = .returned (.func (.func 152) #[] #[.pointer (some ⟨w.heap.size, 0, none⟩), .pointer (some ⟨w.heap.size + 1, 0, none⟩)]) ∧
  (w.alloc (.cells #[.pointer (some ⟨t, 0, none⟩)] 103)).alloc (.cells #[.string frm] 9) = w' := by
 have hmf : ∀ (fn : Fn) (first cap : Array Value) (w : World), (Instr.makeFunc fn first cap).run Tryz.prog w = .ok (.func fn first cap) w := fun _ _ _ _ => rfl; go_enter Tryz.func114, Tryz.ntmps114; go_wp2; go_ret; exact ⟨rfl, rfl⟩
structure RgI (w : World) (tO : ByteArray) (most : Nat) (n₀ : Nat) (out : Pairs) (W : World) : Prop where
 b0 : W.heap[w.heap.size]? = some (.cells #[Value.string tO] 9 (0, 0))
 b1 : W.heap[w.heap.size + 1]? = some (.cells #[Value.int .i64 (most : Int)] 3 (0, 0))
 b2 : ∃ v, W.heap[w.heap.size + 1 + 1]? = some (.cells #[v] 119 (0, 0)) ∧ SlF W 122 2 pairC v out ∧ ∀ b, v.ownBlock = some b → n₀ ≤ b
 below : Below w.heap.size w W
 size : n₀ ≤ W.heap.size
theorem RgI.own {w : World} {tO : ByteArray} {most n₀ : Nat} {out : Pairs} {W W' : World} {row : Option Nat} (h : RgI w tO most n₀ out W) (hn : w.heap.size ≤ n₀) (hg : W.grownBy W' row) (hr : ∀ r, row = some r → n₀ ≤ r ∧ ∃ o : Obj, W.heap[r]? = some o ∧ o.isCells = false) : RgI w tO most n₀ out W' := by
 have key : ∀ (k : Nat) (c : Array Value) (e : TypeId) (fr : Nat × Nat), W.heap[k]? = some (.cells c e fr) → W'.heap[k]? = W.heap[k]? := fun k c e fr hk =>
  hg.block k (zaa hk) fun e' => by obtain ⟨_, o, ho, hc⟩ := hr k e'.symm; rw [hk] at ho; cases ho; cases hc
 obtain ⟨v, h2, h3, h4⟩ := h.b2; refine ⟨(key _ _ _ _ h.b0).trans h.b0, (key _ _ _ _ h.b1).trans h.b1, ⟨v, (key _ _ _ _ h2).trans h2, ?_, h4⟩, h.below.grown hg h.below.size fun k hk => Nat.le_trans hn (hr k hk).1, Nat.le_trans h.size hg.size⟩; refine Sl.keep h3 fun k hk => ?_; rcases h3.2 with ⟨rfl, _⟩ | ⟨g, o, cap, cur, rfl, hgg, _⟩
 · simp [Value.ownBlock] at hk
 obtain rfl : g = k := by simpa [Value.ownBlock] using hk
 exact key _ _ _ _ hgg
theorem RgI.fr {w : World} {tO : ByteArray} {most n₀ : Nat} {out : Pairs} {W W' : World} (h : RgI w tO most n₀ out W) (hf : Fr No W W') : RgI w tO most n₀ out W' := by
 obtain ⟨v, h2, h3, h4⟩ := h.b2; exact ⟨hf.heap h.b0 id, hf.heap h.b1 id, ⟨v, hf.heap h2 id, h3.fr0 hf, h4⟩, h.below.trans (hf.below0.mono h.below.size), Nat.le_trans h.size hf.size⟩
theorem RgI.grow {w : World} {tO : ByteArray} {most n₀ : Nat} {pre : Pairs} {x : ByteArray × Int} {W w1 : World} {v : Value} {ob : Obj} {g o cap : Nat} (h : RgI w tO most n₀ pre W) (hn : w.heap.size + 1 + 1 < n₀)
 (c2 : W.heap[w.heap.size + 1 + 1]? = some (.cells #[v] 119 (0, 0))) (hv : SlF W 122 2 pairC v pre) (hvn : ∀ b, v.ownBlock = some b → n₀ ≤ b)
 (hs1 : SlF w1 122 2 pairC (.slice (some ⟨g, o, none⟩) (pre.length + 1) cap) (pre ++ [x])) (hg1 : (W.alloc ob).grownBy w1 v.ownBlock) (hb1 : v.ownBlock = some g ∨ g = W.heap.size + 1) :
 w1.heap[w.heap.size + 1 + 1]? = some (.cells #[v] 119 (0, 0)) ∧
 RgI w tO most n₀ (pre ++ [x]) (w1.setCell ⟨w.heap.size + 1 + 1, 0, none⟩ (.slice (some ⟨g, o, none⟩) (pre.length + 1) cap)) ∧
 KeepsFrom n₀ W (w1.setCell ⟨w.heap.size + 1 + 1, 0, none⟩ (.slice (some ⟨g, o, none⟩) (pre.length + 1) cap)) ∧
 KpR n₀ (w.heap.size + 1 + 1) W (w1.setCell ⟨w.heap.size + 1 + 1, 0, none⟩ (.slice (some ⟨g, o, none⟩) (pre.length + 1) cap)) := by
 have hF : Fr (fun b => v.ownBlock = some b) W w1 := (((Fr.refl _ W).alloc _).grown hg1 fun k hk => .inl hk)
 have hFS : Fr (fun b => v.ownBlock = some b ∨ b = w.heap.size + 1 + 1) W (w1.setCell ⟨w.heap.size + 1 + 1, 0, none⟩ (.slice (some ⟨g, o, none⟩) (pre.length + 1) cap)) :=
  (hF.mono fun _ _ h => .inl h).setCell (p := ⟨w.heap.size + 1 + 1, 0, none⟩) (.inl (.inr rfl)) _
 have hno : ∀ k, k < n₀ → ¬ v.ownBlock = some k := fun k hk e => by have := hvn k e; omega
 have e2 := hF.heap c2 (hno _ hn)
 have hgn : n₀ ≤ g := by
  rcases hb1 with e | e
  · exact hvn g e
  have := h.size; omega
 have hvc : ∀ k, v.ownBlock = some k → ∃ c fr, W.heap[k]? = some (.cells c 122 fr) := by
  intro k hk; rcases hv.2 with ⟨rfl, _⟩ | ⟨g', o', cap', cur, rfl, hgg, _⟩
  · simp [Value.ownBlock] at hk
  obtain rfl : g' = k := by simpa [Value.ownBlock] using hk
  exact ⟨_, _, hgg⟩
 refine ⟨e2, ⟨?_, ?_, ?_, ?_, ?_⟩, ⟨by simpa using hF.size, ?_⟩, KpR.of_fr hFS h.size ?_⟩
 · exact hFS.heap h.b0 (by rintro (e | e); exact hno _ (by omega) e; omega)
 · exact hFS.heap h.b1 (by rintro (e | e); exact hno _ (by omega) e; omega)
 · refine ⟨_, zac e2 0 _, hs1.other _ _ ?_, fun b hb => ?_⟩
   · simp only [Value.ownBlock, ne_eq, Option.some.injEq]; omega
   obtain rfl : g = b := by simpa [Value.ownBlock] using hb
   exact hgn
 · exact h.below.trans (hFS.below w.heap.size h.below.size (by rintro k (e | e); have := hvn k e; omega; omega))
 · have := hF.size; have := h.size; simp; omega
 · intro k o' hk ho hc
   refine hFS.heap ho ?_; rintro (e | e)
   · obtain ⟨c, fr, e'⟩ := hvc k e; rw [ho] at e'; cases e'; cases hc
   omega
 rintro k (e | e)
 · right; exact ⟨hvn k e, hvc k e⟩
 left; exact e
theorem info127' : (Tryz.prog.info? 122).map (fun i => (i.zero, i.size, i.bytes)) = some (some (.agg #[.string ByteArray.empty, .int .i64 0]), 2, 24) := by kernel_rfl
open Go Go.RowKit
theorem znf {P : Program} (w : World) (dT sT ty elem : TypeId) (i : TypeInfo) (dp sp : Option Addr) (dLen dCap sLen sCap g o : Nat) (cur : Array Value) (t : TypeId) (cs : List Value)
 (hu : P.underlying dT = some (.slice elem)) (hi : P.info? elem = some i) (hg : w.heap[g]? = some (.cells cur t (0, 0))) (hn : cs.length = Nat.min sLen dLen * i.size)
 (hpos : 0 < cs.length → dp = some ⟨g, o, none⟩ ∧ ∃ ad, sp = some ad ∧ ∀ j v, cs[j]? = some v → w.cell? (ad.add j) = some v) (hfit : o + cs.length ≤ cur.size) (h1 : ∀ v ∈ cs, v.oneCell' = true) :
 ∃ w', (Builtin.copy_ #[dT, sT] ty #[.slice dp dLen dCap, .slice sp sLen sCap]).run P w = .ok (goInt (Nat.min sLen dLen)) w' ∧
  w'.heap[g]? = some (.cells (cur.toList.take o ++ cs ++ cur.toList.drop (o + cs.length)).toArray t (0, 0)) ∧ w.grownBy w' (some g) := by
 by_cases h0 : cs.length = 0
 · obtain rfl : cs = [] := List.eq_nil_of_length_eq_zero h0
   refine ⟨w, ?_, by simpa using hg, ⟨rfl, rfl, rfl, Nat.le_refl _, fun _ _ _ => rfl⟩⟩; have hz : Nat.min sLen dLen * i.size = 0 := (by simpa using hn.symm); cases sp <;> cases dp <;> simp [Builtin.copy_, run_underlying hu, Builtin.lenOf, Builtin.firstCells, sizeOf, typeInfo, hi, hz, storeCells, loadCells, loadCellsFrom]
 obtain ⟨rfl, ad, rfl, hsrc⟩ := hpos (by omega)
 have hl := run_loadCells_list (P := P) w ad cs hsrc; have hst := run_storeCells_at P g o t cs 0 cur w hg (by simpa using hfit) h1; refine ⟨w.setRow g (cur.toList.take o ++ cs ++ cur.toList.drop (o + cs.length)).toArray, ?_, setRow_heap w g cur _ t _ hg, ⟨rfl, rfl, rfl, by simp, fun k _ hk => setRow_other w g k _ (fun e => hk (by rw [e]))⟩⟩; simp [Builtin.copy_, run_underlying hu, Builtin.lenOf, Builtin.firstCells, sizeOf, typeInfo, hi, ← hn, hl, hst]
theorem zbo {P : Program} {w : World} {ops : Array Oper} {rest : List Oper} {op : Oper} {a : Act} {Q : Exit → Act → World → Prop} (hgd : op.guard = none) (d s : Operand) (dT sT elem : TypeId) (i : TypeInfo)
 (ho : op.op = .call { callee := .builtin .copy, args := #[d, s], argTypes := #[dT, sT] }) (hu : P.underlying dT = some (.slice elem)) (hi : P.info? elem = some i)
 (dp sp : Option Addr) (dLen dCap sLen sCap g o : Nat) (cur : Array Value) (t : TypeId) (cs : List Value) (hd : a.eval d = .slice dp dLen dCap) (hs : a.eval s = .slice sp sLen sCap)
 (hg : w.heap[g]? = some (.cells cur t (0, 0))) (hn : cs.length = Nat.min sLen dLen * i.size)
 (hpos : 0 < cs.length → dp = some ⟨g, o, none⟩ ∧ ∃ ad, sp = some ad ∧ ∀ j v, cs[j]? = some v → w.cell? (ad.add j) = some v) (hfit : o + cs.length ≤ cur.size) (h1 : ∀ v ∈ cs, v.oneCell' = true)
 (h : ∀ w', w'.heap[g]? = some (.cells (cur.toList.take o ++ cs ++ cur.toList.drop (o + cs.length)).toArray t (0, 0)) → w.grownBy w' (some g) → wpList P ops Q rest (a.put op.dst (goInt (Nat.min sLen dLen))) w') : wpList P ops Q (op :: rest) a w := by
 refine wpList_plain hgd fun _ hK => ?_; obtain ⟨w', hr, h2, h3⟩ := znf (P := P) w dT sT op.type elem i dp sp dLen dCap sLen sCap g o cur t cs hu hi hg hn hpos hfit h1; unfold Oper.wp execOp; simp only [ho, resolve, invoke, builtin, Sem.run_bind, Sem.run_pure, Result.andThen_ok, List.map_toArray, List.map_cons, List.map_nil, hd, hs, hr]; exact hK _ _ (h w' h2 h3)
theorem SlF.copied {α : Type} {f : α → List Value} {w w' : World} {e sz g o cap : Nat} {L : List α} (hf : ∀ x, (f x).length = sz) (h : SlF w e sz f (.slice (some ⟨g, o, none⟩) L.length cap) L) (j k m : Nat) (hj : j + m ≤ L.length) (hk : k + m ≤ L.length)
 (cur : Array Value) (hg : w.heap[g]? = some (.cells cur e (0, 0)))
 (hg' : w'.heap[g]? = some (.cells (cur.toList.take (o + k * sz) ++ (((L.drop j).take m).flatMap f) ++ cur.toList.drop (o + k * sz + m * sz)).toArray e (0, 0))) :
 SlF w' e sz f (.slice (some ⟨g, o, none⟩) L.length cap) (L.take k ++ (L.drop j).take m ++ L.drop (k + m)) := by
 have hlen : (L.take k ++ (L.drop j).take m ++ L.drop (k + m)).length = L.length := by simp; omega
 unfold SlF; rw [hlen]; refine ⟨by rw [zam hf, hlen], ?_⟩; rcases h.2 with ⟨h0, _⟩ | ⟨g', o', cap', cur', hv, hc, h1, h2, h3, h4⟩
 · cases h0
 cases hv
 rw [hg] at hc; cases hc
 have hL : L.length * sz ≤ cap * sz := Nat.mul_le_mul_right _ h1; have hkm : k * sz + m * sz ≤ L.length * sz := (by rw [← Nat.add_mul]; exact Nat.mul_le_mul_right _ hk); have hml : (((L.drop j).take m).flatMap f).length = m * sz := (by rw [zam hf]; congr 1; simp; omega); have hcl : cur.toList.length = cur.size := (by simp); refine .inr ⟨g, o, cap, _, rfl, hg', h1, h2, ?_, ?_⟩
 · simp only [List.size_toArray, List.length_append, List.length_take, List.length_drop, hml, hcl]
   omega
 have e1 : (cur.toList.take (o + k * sz)).drop o = (L.take k).flatMap f := by
  rw [← zdm hf, ← h4, List.drop_take, List.take_take]
  congr 1
  omega
 have e2 : (cur.toList.drop (o + k * sz + m * sz)).take (L.length * sz - (k * sz + m * sz)) = (L.drop (k + m)).flatMap f := by
  have : (L.flatMap f).drop ((k + m) * sz) = (L.drop (k + m)).flatMap f := by
   have h5 := congrArg (fun l => List.flatMap f l) (List.take_append_drop (k + m) L); simp only [List.flatMap_append] at h5; rw [← h5, ← zdm hf, List.drop_append_of_le_length (by rw [List.length_take, zam hf, Nat.add_mul]; omega), List.drop_eq_nil_of_le (by rw [List.length_take]; omega), List.nil_append]
  rw [← this, ← h4, List.drop_take, List.drop_drop, Nat.add_mul]
  congr 2
  omega
 show (((cur.toList.take (o + k * sz) ++ (((L.drop j).take m).flatMap f) ++ cur.toList.drop (o + k * sz + m * sz)).drop o).take (L.length * sz)) = _
 rw [List.append_assoc, List.drop_append_of_le_length (by simp; omega), e1]; rw [List.flatMap_append, List.flatMap_append, List.append_assoc]; have e3 : ((L.take k).flatMap f).length = k * sz := (by rw [zam hf]; congr 1; simp; omega); have e4 : L.length * sz = ((L.take k).flatMap f).length + ((((L.drop j).take m).flatMap f).length + (L.length * sz - (k * sz + m * sz))) := (by rw [e3, hml]; omega); rw [e4, List.take_length_add_append, List.take_length_add_append, e2]
open Go Go.Proofs Go.RowKit
theorem info127 : (Tryz.prog.info? 122).map (fun i => (i.zero, i.size, i.bytes)) = some (some (.agg #[.string ByteArray.empty, .int .i64 0]), 2, 24) := by kernel_rfl
theorem zmd {α : Type} (L : List α) (x : α) (i : Nat) (hi : i ≤ L.length) :
 (((L ++ [x]).take (i + 1) ++ ((L ++ [x]).drop i).take (L.length - i) ++ (L ++ [x]).drop (i + 1 + (L.length - i))).set i x) = L.take i ++ x :: L.drop i := by
 have h1 : (L ++ [x]).drop (i + 1 + (L.length - i)) = [] := List.drop_eq_nil_of_le (by simp; omega)
 have h2 : ((L ++ [x]).drop i).take (L.length - i) = L.drop i := by
  rw [List.drop_append_of_le_length hi, List.take_append_of_le_length (by simp), List.take_of_length_le (by simp)]
 rw [h1, h2, List.append_nil]; by_cases h : i < L.length
 · have h3 : (L ++ [x]).take (i + 1) = L.take i ++ [L[i]] := by
    rw [List.take_append_of_le_length (by omega), List.take_succ_eq_append_getElem h]
   rw [h3, List.append_assoc, List.set_append_right _ _ (by simp; omega)]; simp [show i - min i L.length = 0 from by omega]
 obtain rfl : i = L.length := by omega
 rw [List.take_of_length_le (by simp)]; simp
set_option maxHeartbeats 1000000 in
theorem zdt (w : World) (v : Value) (L : Pairs) (i : Nat) (x : ByteArray × Int) (hv : SlF w 122 2 pairC v L) (hi : i ≤ L.length) (hl : L.length ≤ 1099511627) :
 Calls Tryz.prog 158 #[v, .int .i64 i, .agg #[.string x.1, .int .i64 x.2]] w fun e w' => ∃ g o cap, e = .returned (.slice (some ⟨g, o, none⟩) (L.length + 1) cap) ∧
  SlF w' 122 2 pairC (.slice (some ⟨g, o, none⟩) (L.length + 1) cap) (L.take i ++ x :: L.drop i) ∧ Fr (fun b => v.ownBlock = some b) w w' ∧ (v.ownBlock = some g ∨ w.heap.size ≤ g) := by
 obtain ⟨i0, hi0, hz0, hz1, hz2⟩ := info_parts info127; have hnew := zax (w.alloc (.cells #[.string x.1, .int .i64 x.2] 122)) [.string x.1, .int .i64 x.2] 122 (0, 0); have HV := H_ hv; clear hv; have hil : (0 : Int) ≤ (i : Int) := by omega
 go_enter Tryz.func158, Tryz.ntmps158; go_wp2_with (at_builtin; refine zap rfl _ _ 119 rfl 122 i0 _ 2 24 Tryz.underlying119 hi0 hz0 hz1 hz2 rfl (by decide) v L rfl ((HV.out.alloc _).alloc _) (w.heap.size + 1) 1 x rfl (by simpa [pairC] using hnew) rfl ?c1 ?c2 ?c3 ?_)
 case c1 => intro u hu; simp [pairC] at hu; rcases hu with rfl | rfl <;> rfl
 case c2 => unfold maxLen; omega
 case c3 => omega
 intro g o cap w1 hs1 hg1 hb1 hlt1; have hgl := HV.out.lt; have hF1 : Fr (fun b => v.ownBlock = some b) w w1 := ((((Fr.refl _ w).alloc _).alloc _).grown hg1 fun k hk => .inl hk)
 have hgne : g ≠ w.heap.size := by
  rintro rfl; rcases hb1 with e | e
  · have := hgl _ e; omega
  omega
 have hgnew : v.ownBlock = some g ∨ w.heap.size ≤ g := by
  rcases hb1 with e | e
  · exact .inl e
  right; omega
 -- the box of x
 have hx1 : w1.heap[w.heap.size]? = some (.cells #[.string x.1, .int .i64 x.2] 122 (0, 0)) := by
  rw [hg1.block w.heap.size (by simp; omega) (fun e => by have := hgl _ e.symm; omega)]; exact zal (zad _ _ _ rfl) _
 obtain ⟨cur, hcur, hncap, hfit⟩ : ∃ cur, w1.heap[g]? = some (.cells cur 122 (0, 0)) ∧ L.length + 1 ≤ cap ∧ o + cap * 2 ≤ cur.size := by
  rcases hs1.2 with ⟨h0, _⟩ | ⟨_, _, _, cur, hv, hc, h2, h3, h4, h5⟩
  · cases h0
  simp only [Value.slice.injEq, Option.some.injEq, Addr.mk.injEq, and_true] at hv
  obtain ⟨⟨rfl, rfl⟩, _, rfl⟩ := hv; exact ⟨cur, hc, by simpa using h2, h4⟩
 have hL1 : (L ++ [x]).length = L.length + 1 := by simp
 have H1 := H_ hs1; clear hs1; have HG1 := H_ hg1; clear hg1; have HL := H_ hL1; clear hL1; clear hnew; have hi1 : (i : Int) + 1 ≤ (L.length : Int) + 1 := by omega
 have hi5 : (0 : Int) ≤ (i : Int) + 1 := by omega
 have hi2 : (i : Int) ≤ (L.length : Int) + 1 := by omega
 have hi3 : i + 1 ≤ L.length + 1 := by omega
 have hi4 : i ≤ L.length + 1 := by omega
 go_wp2_with fail; refine wp_region_still_tail 7 (by kernel_rfl) (by kernel_rfl) ?_; simp only [List.take_succ_cons, List.take_zero, List.drop_succ_cons, List.drop_zero]; change wpStill _ _ w1.drew _ _ _
 repeat (refine wpStill_step (fun K hK => ?_); go_simp; (try go_bits); refine hK _ ?_; clear hK K)
 refine wpStill_nil ?_; change wpList _ _ _ _ _ w1.drew
 have hlen2 : ((((L ++ [x]).drop i).take (L.length - i)).flatMap pairC).length = (L.length - i) * 2 := by
  rw [zam zae]; congr 1; simp; omega
 have hmin : Nat.min (L.length + 1 - i) (L.length - i) = L.length - i := Nat.min_eq_right (by omega); refine zbo rfl _ _ 119 119 122 i0 rfl Tryz.underlying119 hi0 _ _ _ _ _ _ g (o + (i + 1) * 2) cur 122 ((((L ++ [x]).drop i).take (L.length - i)).flatMap pairC) rfl rfl hcur (by rw [hlen2, hz1, hmin]) ?hpos ?hfit ?h1 ?_
 case hpos =>
  intro hp; rw [hlen2] at hp; rw [if_neg (by omega), if_neg (by omega)]; refine ⟨rfl, _, rfl, fun j u hu => ?_⟩; have hj := (List.getElem?_eq_some_iff.1 hu).1; rw [hlen2] at hj; have hadd : (⟨g, o + i * 2, none⟩ : Addr).add j = ⟨g, o + (i * 2 + j), none⟩ := (by unfold Addr.add; split <;> simp_all [Nat.add_assoc]); rw [hadd]; refine Sl.cell (by have := H1.out; unfold SlF at this; rw [HL.out] at this; exact this) (i * 2 + j) ?_; rw [← zdm zae, List.getElem?_take, if_pos (by omega)] at hu; rw [← hu]; have h5 := congrArg (fun l => List.flatMap pairC l) (List.take_append_drop i (L ++ [x])); simp only [List.flatMap_append] at h5; have h6 : (List.flatMap pairC (List.take i (L ++ [x]))).length = i * 2 := (by rw [zam zae]; congr 1; simp; omega); rw [List.flatMap_append, ← h5, List.getElem?_append_right (by rw [h6]; omega), h6, show i * 2 + j - i * 2 = j from by omega]
 case hfit => rw [hlen2]; omega
 case h1 =>
  intro u hu; obtain ⟨y, _, hy⟩ := List.mem_flatMap.1 hu; simp [pairC] at hy; rcases hy with rfl | rfl <;> rfl
 intro w2 hw2 hgr2; generalize (if cap = i + 1 then some (⟨g, o, none⟩ : Addr) else some ⟨g, o + (i + 1) * 2, none⟩) = A1; generalize (if cap = i then some (⟨g, o, none⟩ : Addr) else some ⟨g, o + i * 2, none⟩) = A2; have hs2 := SlF.copied (w := w1) (w' := w2) (L := L ++ [x]) zae (by have := H1.out; rwa [HL.out]) i (i + 1) (L.length - i) (by simp; omega) (by simp; omega) cur hcur (by rw [hlen2] at hw2; exact hw2); have hx2 : w2.heap[w.heap.size]? = some (.cells #[.string x.1, .int .i64 x.2] 122 (0, 0)) := (hgr2.block w.heap.size (zaa hx1) (fun e => hgne (by cases e; rfl))).trans hx1; have b0 : w2.cell? ⟨w.heap.size, 0, none⟩ = some (.string x.1) := by simp [World.cell?, hx2]
 have b1 : w2.cell? ⟨w.heap.size, 1, none⟩ = some (.int .i64 x.2) := by simp [World.cell?, hx2]
 have HE := H_ (zmd L x i hi); generalize hL2 : ((L ++ [x]).take (i + 1) ++ ((L ++ [x]).drop i).take (L.length - i) ++ (L ++ [x]).drop (i + 1 + (L.length - i))) = L2 at hs2 HE; have hL2l : L2.length = L.length + 1 := by rw [← hL2]; simp; omega
 obtain ⟨y, hy⟩ : ∃ y, L2[i]? = some y := ⟨_, List.getElem?_eq_getElem (by omega)⟩; have hs2' : SlF w2 122 2 pairC (.slice (some ⟨g, o, none⟩) L2.length cap) L2 := by rw [hL2l]; rwa [HL.out] at hs2
 have d0 := hs2'.cell0 zae i hy rfl; have d1 := hs2'.cell zae i 1 hy rfl; have f0 := hs2'.free (o + i * 2); have f1 := hs2'.free (o + i * 2 + 1); have H2 := H_ hs2'; have HY := H_ hy; have HL2 := H_ hL2l; have HG2 := H_ hgr2; have hi6 : (i : Int) < (L.length : Int) + 1 := by omega
 have hi7 : i < L.length + 1 := by omega
 clear hs2 hs2' hy hL2 hL2l hgr2 hw2 hx2 hlen2 hmin; go_wp2; go_ret; refine ⟨g, o, cap, rfl, ?_, ?_, hgnew⟩
 · have e1 := SlF.set zae H2.out i 0 (by omega) y (x.1, y.2) (.string x.1) HY.out rfl
   have hyl : (L2.set i (x.1, y.2)).length = L2.length := (by simp); have e2 := SlF.set (L := L2.set i (x.1, y.2)) zae (by rw [hyl]; exact e1) i 1 (by omega) (x.1, y.2) x (.int .i64 x.2) (by rw [List.getElem?_set_self (by rw [HL2.out]; omega)]) rfl; rw [List.set_set, hyl, HE.out, HL2.out] at e2; exact e2
 have hF2 : Fr (fun b => v.ownBlock = some b) w w2 := hF1.drew.grown HG2.out fun k hk => by cases hk; exact hgnew
 exact ((hF2.setCell (p := ⟨g, o + i * 2, none⟩) hgnew _).setCell (p := ⟨g, o + i * 2 + 1, none⟩) hgnew _)
theorem zru (w : World) (t : Nat) (frm tO : ByteArray) :
 Calls Tryz.prog 60 #[.pointer (some ⟨t, 0, none⟩), .string frm, .string tO, .int .i64 0] w fun e w' => e = .returned (.slice none 0 0) ∧ Fr No w w' := by
 go_enter Tryz.func60, Tryz.ntmps60; go_wp2; go_ret; exact ⟨rfl, (((Fr.refl No w).alloc _).alloc _).alloc _⟩
abbrev zao := World → Nat → Pairs → (Nat → Prop) → Prop
structure TreeOk (TA : zao) (N : Nat) : Prop where
 lt : ∀ {w t T F}, TA w t T F → ∀ b, F b → b < w.heap.size
 fr : ∀ {w w' t T F S}, TA w t T F → Fr S w w' → (∀ b, F b → ¬ S b) → TA w' t T F
 root : ∀ {w t T F}, TA w t T F → F t
 sorted : ∀ {w t T F}, TA w t T F → Sorted T
 new : ∀ w : World, Calls Tryz.prog 51 #[] w fun e w' => ∃ t, e = .returned (.pointer (some ⟨t, 0, none⟩)) ∧ ∃ F, TA w' t [] F ∧ Fr No w w' ∧ (∀ b, F b → w.heap.size ≤ b)
 len : ∀ {w t T F}, TA w t T F → Calls Tryz.prog 61 #[.pointer (some ⟨t, 0, none⟩)] w fun e w' => e = .returned (.int .i64 T.length) ∧ w = w'
 get : ∀ {w t T F} (key : ByteArray), TA w t T F → Calls Tryz.prog 121 #[.pointer (some ⟨t, 0, none⟩), .string key] w fun e w' => e = .returned (zck (getT T key)) ∧ Fr No w w'
 set : ∀ {w t T F} (key : ByteArray) (m : Int), TA w t T F → T.length < N →
  Calls Tryz.prog 116 #[.pointer (some ⟨t, 0, none⟩), .string key, .int .i64 m] w fun e w' => (∃ v, e = .returned v) ∧ ∃ F', TA w' t (insT T key m) F' ∧ Fr F w w' ∧ (∀ b, F' b → F b ∨ w.heap.size ≤ b)
 range : ∀ {w t T F} (frm tO : ByteArray), TA w t T F →
  Calls Tryz.prog 60 #[.pointer (some ⟨t, 0, none⟩), .string frm, .string tO, .int .i64 T.length] w fun e w' => ∃ v, e = .returned v ∧ SlF w' 122 2 pairC v (rangeT T frm tO) ∧ Fr No w w' ∧ (∀ b, v.ownBlock = some b → w.heap.size ≤ b)
structure Gen where
 create : Int
 cut : Int
 puts : List Int
 end_ : Int
def genC (p : Gen × Value) : List Value := [.int .i64 p.1.create, .int .i64 p.1.cut, p.2, .int .i64 p.1.end_]
theorem zak (p : Gen × Value) : (genC p).length = 4 := rfl
structure KeyRep (w : World) (g : Nat) (gv : Value) (Z : List (Gen × Value)) (last : Int) : Prop where
 obj : Has w g [gv, .int .i64 last]
 gens : SlF w 223 4 genC gv Z
 puts : ∀ (i : Nat) p, Z[i]? = some p → SlF w 3 1 int1 p.2 p.1.puts
 apart : ∀ (i : Nat) p, Z[i]? = some p → ∀ b, p.2.ownBlock = some b → b ≠ g ∧ gv.ownBlock ≠ some b
 apart2 : ∀ (i j : Nat) p q, Z[i]? = some p → Z[j]? = some q → ∀ b, p.2.ownBlock = some b → q.2.ownBlock = some b → i = j
 own : gv.ownBlock ≠ some g
def keyF (g : Nat) (gv : Value) (Z : List (Gen × Value)) (b : Nat) : Prop := b = g ∨ gv.ownBlock = some b ∨ ∃ (i : Nat) (p : Gen × Value), Z[i]? = some p ∧ p.2.ownBlock = some b
def isOpen (K : List Gen) : Bool := match K.getLast? with
 | some x => x.end_ == 0
 | none => false
theorem ztc (w : World) (g : Nat) (gv : Value) (Z : List (Gen × Value)) (last : Int) (h : KeyRep w g gv Z last) (ho : isOpen (Z.map (·.1)) = false) (hl : Z.length ≤ 1099511627776) :
 Calls Tryz.prog 178 #[.pointer (some ⟨g, 0, none⟩)] w fun e w' => e = .returned (.pointer none) ∧ w = w' := by
 obtain ⟨a, cap, rfl, hc1, hc2, ha⟩ := h.gens.shape; have hg0 := h.obj.cell 0 rfl; by_cases hz : Z.length = 0
 · obtain rfl := List.eq_nil_of_length_eq_zero hz
   go_enter Tryz.func178, Tryz.ntmps178; go_wp2; go_ret; exact ⟨rfl, rfl⟩
 obtain ⟨gb, go, rfl⟩ := ha (by omega)
 have hx : Z[Z.length - 1]? = some (Z[Z.length - 1]'(by omega)) := List.getElem?_eq_getElem (by omega); have he := h.gens.cell zak (Z.length - 1) 3 hx rfl; have hz0 : (0 : Int) < (Z.length : Int) := (by omega)
 have hen : ((Z[Z.length - 1]'(by omega)).1.end_ == 0) = false := by
  unfold isOpen at ho; rw [List.getLast?_map, List.getLast?_eq_getElem?, hx] at ho; exact ho
 generalize (Z[Z.length - 1]'(by omega)).1.end_ = en at he hen; clear h hx ha ho; generalize Z.length = n at *; go_enter Tryz.func178, Tryz.ntmps178; go_wp2; go_ret; exact ⟨rfl, rfl⟩
theorem zhq (w : World) (g gb go cap : Nat) (Z : List (Gen × Value)) (last : Int) (h : KeyRep w g (.slice (some ⟨gb, go, none⟩) Z.length cap) Z last) (ho : isOpen (Z.map (·.1)) = true) (hl : Z.length ≤ 1099511627776) :
 Calls Tryz.prog 178 #[.pointer (some ⟨g, 0, none⟩)] w fun e w' => e = .returned (.pointer (some ⟨gb, go + (Z.length - 1) * 4, none⟩)) ∧ w = w' := by
 have hg0 := h.obj.cell 0 rfl
 have hz : Z.length ≠ 0 := by
  intro hz; obtain rfl := List.eq_nil_of_length_eq_zero hz; simp [isOpen] at ho
 have hx : Z[Z.length - 1]? = some (Z[Z.length - 1]'(by omega)) := List.getElem?_eq_getElem (by omega); have he := h.gens.cell zak (Z.length - 1) 3 hx rfl; have hz0 : (0 : Int) < (Z.length : Int) := by omega
 have hen : ((Z[Z.length - 1]'(by omega)).1.end_ == 0) = true := by
  unfold isOpen at ho; rw [List.getLast?_map, List.getLast?_eq_getElem?, hx] at ho; exact ho
 obtain ⟨_, _, hv, hc1, hc2, _⟩ := h.gens.shape; cases hv
 generalize (Z[Z.length - 1]'(by omega)).1.end_ = en at he hen; clear h hx ho; generalize Z.length = n at *; go_enter Tryz.func178, Tryz.ntmps178; go_wp2; go_ret; exact ⟨rfl, rfl⟩
theorem info3 : (Tryz.prog.info? 3).map (fun i => (i.zero, i.size, i.bytes)) = some (some (.int .i64 0), 1, 8) := by kernel_rfl
theorem info190 : (Tryz.prog.info? 223).map (fun i => (i.zero, i.size, i.bytes)) = some (some (.agg #[.int .i64 0, .int .i64 0, .slice none 0 0, .int .i64 0]), 4, 48) := by kernel_rfl
theorem zsu {w w1 : World} {g gb go cap pb po pc : Nat} {Z : List (Gen × Value)} {last rev : Int} {x : Gen} {pv : Value} {ob : Obj} (h : KeyRep w g (.slice (some ⟨gb, go, none⟩) Z.length cap) Z last) (hx : Z[Z.length - 1]? = some (x, pv))
 (hs1 : SlF w1 3 1 int1 (.slice (some ⟨pb, po, none⟩) (x.puts.length + 1) pc) (x.puts ++ [rev])) (hg1 : (w.alloc ob).grownBy w1 pv.ownBlock) (hb1 : pv.ownBlock = some pb ∨ pb = w.heap.size + 1) :
 KeyRep (w1.setCell ⟨gb, go + (Z.length - 1) * 4 + 2, none⟩ (.slice (some ⟨pb, po, none⟩) (x.puts.length + 1) pc)) g (.slice (some ⟨gb, go, none⟩) Z.length cap)
  (Z.set (Z.length - 1) ({ x with puts := x.puts ++ [rev] }, .slice (some ⟨pb, po, none⟩) (x.puts.length + 1) pc)) last ∧
 Fr (keyF g (.slice (some ⟨gb, go, none⟩) Z.length cap) Z) w (w1.setCell ⟨gb, go + (Z.length - 1) * 4 + 2, none⟩ (.slice (some ⟨pb, po, none⟩) (x.puts.length + 1) pc)) ∧
 (∀ b, (Value.slice (some ⟨pb, po, none⟩) (x.puts.length + 1) pc).ownBlock = some b → pv.ownBlock = some b ∨ w.heap.size ≤ b) := by
 have hzl : Z.length - 1 < Z.length := (List.getElem?_eq_some_iff.1 hx).1; have hap := h.apart _ _ hx; have hgl : gb < w.heap.size := h.gens.lt gb rfl; have hF0 : Fr (fun k => pv.ownBlock = some k) w w1 := (((Fr.refl _ w).alloc _).grown hg1 fun k hk => .inl hk); have hgn : ¬ pv.ownBlock = some gb := fun e => (hap gb e).2 rfl; have hgens1 : SlF w1 223 4 genC (.slice (some ⟨gb, go, none⟩) Z.length cap) Z := h.gens.fr hF0 fun k hk hs => by cases hk; exact hgn hs
 have hne : gb ≠ pb := by
  rintro rfl; rcases hb1 with e | e
  · exact hgn e
  omega
 have hown' : ∀ b, (Value.slice (some ⟨pb, po, none⟩) (x.puts.length + 1) pc).ownBlock = some b → pv.ownBlock = some b ∨ w.heap.size ≤ b := by
  intro b hb; obtain rfl : pb = b := by simpa [Value.ownBlock] using hb
  rcases hb1 with e | e
  · exact .inl e
  right; omega
 have hF : Fr (keyF g (.slice (some ⟨gb, go, none⟩) Z.length cap) Z) w (w1.setCell ⟨gb, go + (Z.length - 1) * 4 + 2, none⟩ (.slice (some ⟨pb, po, none⟩) (x.puts.length + 1) pc)) := by
  refine (hF0.mono ?_).setCell (.inl (.inr (.inl rfl))) _; intro k _ hk; exact .inr (.inr ⟨_, _, hx, hk⟩)
 have hown : ∀ (i : Nat) q, Z[i]? = some q → ∀ b, q.2.ownBlock = some b → b < w.heap.size := fun i q hq => (h.puts i q hq).lt; refine ⟨?_, hF, hown'⟩
 constructor
 · have := h.obj.fr hF0 fun e => (hap g e).1 rfl
   exact this.other _ _ (fun e => h.own (by rw [e]; rfl))
 · simpa using hgens1.set zak _ 2 (by omega) (x, pv) ({ x with puts := x.puts ++ [rev] }, .slice (some ⟨pb, po, none⟩) (x.puts.length + 1) pc) _ hx rfl
 · intro i q hq
   rw [List.getElem?_set] at hq
   split at hq
   · simp at hq
     subst hq; have := hs1.other ⟨gb, go + (Z.length - 1) * 4 + 2, none⟩ (.slice (some ⟨pb, po, none⟩) (x.puts.length + 1) pc) (by simpa [Value.ownBlock] using Ne.symm hne); simpa [SlF] using this
   rename_i hne2
   have hq' := h.puts i q hq; have hnp : ∀ b, q.2.ownBlock = some b → ¬ pv.ownBlock = some b := fun b hb hb' => hne2 (h.apart2 _ _ _ _ hx hq b hb' hb); refine (hq'.fr hF0 hnp).other _ _ ?_; intro e; exact (h.apart i q hq gb e).2 rfl
 · intro i q hq b hb
   rw [List.getElem?_set] at hq
   split at hq
   · simp at hq
     subst hq; rcases hown' b hb with e | e
     · exact hap b e
     have := h.obj.lt
     refine ⟨by omega, ?_⟩; simp [Value.ownBlock]; omega
   exact h.apart i q hq b hb
 · intro i j q r hq hr b hb hb'
   rw [List.getElem?_set] at hq hr
   split at hq <;> split at hr
   · omega
   · rename_i e1 e2
     simp at hq; subst hq; rcases hown' b hb with e | e
     · exact e1 ▸ h.apart2 _ _ _ _ hx hr b e hb'
     have := hown _ _ hr b hb'; omega
   · rename_i e1 e2
     simp at hr; subst hr; rcases hown' b hb' with e | e
     · exact e2 ▸ h.apart2 _ _ _ _ hq hx b hb e
     have := hown _ _ hq b hb; omega
   exact h.apart2 i j q r hq hr b hb hb'
 exact h.own
theorem zuz (n : Nat) {w w1 : World} {g gb go cap pb po pc : Nat} {Z : List (Gen × Value)} {last rev : Int} {x : Gen} {pv : Value} {ob : Obj} (h : KeyRep w g (.slice (some ⟨gb, go, none⟩) n cap) Z last) (hn : Z.length = n) (hx : Z[n - 1]? = some (x, pv))
 (hs1 : SlF w1 3 1 int1 (.slice (some ⟨pb, po, none⟩) (x.puts.length + 1) pc) (x.puts ++ [rev])) (hg1 : (w.alloc ob).grownBy w1 pv.ownBlock) (hb1 : pv.ownBlock = some pb ∨ pb = w.heap.size + 1) :
 KeyRep (w1.setCell ⟨gb, go + (n - 1) * 4 + 2, none⟩ (.slice (some ⟨pb, po, none⟩) (x.puts.length + 1) pc)) g (.slice (some ⟨gb, go, none⟩) n cap)
  (Z.set (n - 1) ({ x with puts := x.puts ++ [rev] }, .slice (some ⟨pb, po, none⟩) (x.puts.length + 1) pc)) last ∧
 Fr (keyF g (.slice (some ⟨gb, go, none⟩) n cap) Z) w (w1.setCell ⟨gb, go + (n - 1) * 4 + 2, none⟩ (.slice (some ⟨pb, po, none⟩) (x.puts.length + 1) pc)) ∧
 (∀ b, (Value.slice (some ⟨pb, po, none⟩) (x.puts.length + 1) pc).ownBlock = some b → pv.ownBlock = some b ∨ w.heap.size ≤ b) := by
 subst hn; exact zsu h hx hs1 hg1 hb1
theorem zuy (w : World) (g : Nat) (gv : Value) (Z : List (Gen × Value)) (last rev : Int) (x : Gen) (pv : Value) (h : KeyRep w g gv Z last) (hx : Z[Z.length - 1]? = some (x, pv))
 (ho : isOpen (Z.map (·.1)) = true) (hl : Z.length ≤ 1099511627776) (hp : x.puts.length ≤ 1099511627776) :
 Calls Tryz.prog 160 #[.pointer (some ⟨g, 0, none⟩), .int .i64 rev] w fun e w' => e = .returned (.int .i64 0) ∧
  ∃ v', KeyRep w' g gv (Z.set (Z.length - 1) ({ x with puts := x.puts ++ [rev] }, v')) last ∧ Fr (keyF g gv Z) w w' ∧ (∀ b, v'.ownBlock = some b → pv.ownBlock = some b ∨ w.heap.size ≤ b) := by
 obtain ⟨a, cap, rfl, hc1, hc2, ha⟩ := h.gens.shape; have hzl : Z.length - 1 < Z.length := (List.getElem?_eq_some_iff.1 hx).1; obtain ⟨gb, go, rfl⟩ := ha (by omega); have hg0 := h.obj.cell 0 rfl; have hcp := h.gens.cell zak (Z.length - 1) 2 hx rfl; have hpv := h.puts _ _ hx; have hap := h.apart _ _ hx; have hopen := zhq w g gb go cap Z last h ho hl; obtain ⟨i0, hi, hz0, hz1, hz2⟩ := info_parts info3; have hnew := zax w [Value.int .i64 rev] 3 (0, 0); have H := H_ h; clear h; have HX := H_ hx; clear hx; go_enter Tryz.func160, Tryz.ntmps160
 go_wp2_with (first
  | (go_at_call 178; refine hopen.mono ?_; clear hopen; rintro e w' ⟨rfl, rfl⟩)
  | (at_builtin; refine zap rfl _ _ 76 rfl 3 i0 (.int .i64 0) 1 8 Tryz.underlying76 hi hz0 hz1 hz2 rfl (by decide) pv x.puts rfl (hpv.alloc _) w.heap.size 1 rev rfl hnew rfl ?c1 ?c2 ?c3 ?_))
 case c1 => intro u hu; simp [int1] at hu; subst hu; rfl
 case c2 => unfold maxLen; omega
 case c3 => omega
 intro pb po pc w1 hs1 hg1 hb1 hlt1; have hF0 : Fr (fun k => pv.ownBlock = some k) w w1 := (((Fr.refl _ w).alloc _).grown hg1 fun k hk => .inl hk); have hgens1 : SlF w1 223 4 genC (.slice (some ⟨gb, go, none⟩) Z.length cap) Z := H.out.gens.fr hF0 fun k hk hs => by cases hk; exact (hap gb hs).2 rfl
 have hcp1 := hgens1.cell zak (Z.length - 1) 2 HX.out rfl; have hfr1 := hgens1.free (go + (Z.length - 1) * 4 + 2); have H1 := H_ (zsu H.out HX.out hs1 hg1 (by simpa using hb1)); clear hs1 hgens1 hg0 hcp hnew hg1 hb1 hF0; go_wp2; go_ret; exact ⟨rfl, _, H1.out⟩
theorem zqp (n : Nat) (w : World) (g gb go cap : Nat) (Z : List (Gen × Value)) (last : Int) (h : KeyRep w g (.slice (some ⟨gb, go, none⟩) n cap) Z last) (hn : Z.length = n) (ho : isOpen (Z.map (·.1)) = true) (hl : n ≤ 1099511627776) :
 Calls Tryz.prog 178 #[.pointer (some ⟨g, 0, none⟩)] w fun e w' => e = .returned (.pointer (some ⟨gb, go + (n - 1) * 4, none⟩)) ∧ w = w' := by
 subst hn; exact zhq w g gb go cap Z last h ho hl
def zby (rev : Int) : Gen := { create := rev, cut := 0, puts := [], end_ := 0 }
theorem zvr {w w1 : World} {g gb go cap : Nat} {gv : Value} {Z : List (Gen × Value)} {last rev : Int} {ob : Obj} (h : KeyRep w g gv Z last)
 (hs1 : SlF w1 223 4 genC (.slice (some ⟨gb, go, none⟩) (Z.length + 1) cap) (Z ++ [(zby rev, .slice none 0 0)])) (hg1 : (w.alloc ob).grownBy w1 gv.ownBlock) (hb1 : gv.ownBlock = some gb ∨ gb = w.heap.size + 1) :
 KeyRep (w1.setCell ⟨g, 0, none⟩ (.slice (some ⟨gb, go, none⟩) (Z.length + 1) cap)) g (.slice (some ⟨gb, go, none⟩) (Z.length + 1) cap) (Z ++ [(zby rev, .slice none 0 0)]) last ∧
 Fr (keyF g gv Z) w (w1.setCell ⟨g, 0, none⟩ (.slice (some ⟨gb, go, none⟩) (Z.length + 1) cap)) := by
 have hF0 : Fr (fun k => gv.ownBlock = some k) w w1 := (((Fr.refl _ w).alloc _).grown hg1 fun k hk => .inl hk)
 have hne : gb ≠ g := by
  rintro rfl; rcases hb1 with e | e
  · exact h.own e
  have := h.obj.lt; omega
 have hget : ∀ (i : Nat) q, (Z ++ [(zby rev, Value.slice none 0 0)])[i]? = some q → Z[i]? = some q ∨ q = (zby rev, .slice none 0 0) := by
  intro i q hq; rw [List.getElem?_append] at hq
  split at hq
  · exact .inl hq
  right
  rw [List.getElem?_singleton] at hq
  split at hq
  · simpa using hq.symm
  cases hq
 refine ⟨?_, ?_⟩
 · constructor
   · have := (h.obj.fr hF0 h.own).set 0 (.slice (some ⟨gb, go, none⟩) (Z.length + 1) cap)
     exact this
   · exact hs1.other _ _ (by simpa [Value.ownBlock] using hne)
   · intro i q hq
     rcases hget i q hq with h1 | rfl
     · exact ((h.puts i q h1).fr hF0 fun b hb hb' => (h.apart i q h1 b hb).2 hb').other _ _ fun e => (h.apart i q h1 g e).1 rfl
     exact SlF.nil _ _ _ _
   · intro i q hq b hb
     rcases hget i q hq with h1 | rfl
     · refine ⟨(h.apart i q h1 b hb).1, ?_⟩
       have hbl := (h.puts i q h1).lt b hb; have hb2 := (h.apart i q h1 b hb).2; simp only [Value.ownBlock, ne_eq, Option.some.injEq]; rintro rfl; rcases hb1 with e | e
       · exact hb2 e
       omega
     simp [Value.ownBlock] at hb
   · intro i j q r hq hr b hb hb'
     rcases hget i q hq with h1 | rfl
     · rcases hget j r hr with h2 | rfl
       · exact h.apart2 i j q r h1 h2 b hb hb'
       simp [Value.ownBlock] at hb'
     simp [Value.ownBlock] at hb
   simpa [Value.ownBlock] using hne
 exact (hF0.mono fun k _ hk => .inr (.inl hk)).setCell (.inl (.inl rfl)) _
theorem znt (K : List Gen) (rev : Int) : isOpen (K ++ [zby rev]) = true := by simp [isOpen, zby]
theorem zwq (w : World) (g : Nat) (gv : Value) (Z : List (Gen × Value)) (last rev : Int) (h : KeyRep w g gv Z last)
 (ho : isOpen (Z.map (·.1)) = false) (hl : Z.length ≤ 1099511627) :
 Calls Tryz.prog 160 #[.pointer (some ⟨g, 0, none⟩), .int .i64 rev] w fun e w' => e = .returned (.int .i64 0) ∧
  ∃ gv' v', KeyRep w' g gv' (Z ++ [({ zby rev with puts := [rev] }, v')]) last ∧ Fr (keyF g gv Z) w w' ∧ (∀ b, v'.ownBlock = some b → w.heap.size ≤ b) ∧ (∀ b, gv'.ownBlock = some b → gv.ownBlock = some b ∨ w.heap.size ≤ b) := by
 have hg0 := h.obj.cell 0 rfl; have hg1 := h.obj.free 0; have hgl := h.obj.lt; have hopen := ztc w g gv Z last h ho (by omega); have hgs := h.gens; obtain ⟨i0, hi, hz0, hz1, hz2⟩ := info_parts info3; obtain ⟨j0, hj, hy0, hy1, hy2⟩ := info_parts info190; have hnew := zax w (genC (zby rev, .slice none 0 0)) 223 (0, 0); have H := H_ h; clear h; go_enter Tryz.func160, Tryz.ntmps160
 go_wp2_with (first
  | (go_at_call 178; refine hopen.mono ?_; clear hopen; rintro e w' ⟨rfl, rfl⟩)
  | (at_builtin; refine zap rfl _ _ 220 rfl 223 j0 _ 4 48 Tryz.underlying220 hj hy0 hy1 hy2 rfl (by decide) gv Z rfl (hgs.alloc _) w.heap.size 1 (zby rev, .slice none 0 0) rfl hnew rfl ?c1 ?c2 ?c3 ?_))
 case c1 => intro u hu; simp [genC] at hu; rcases hu with rfl | rfl | rfl | rfl <;> rfl
 case c2 => unfold maxLen; omega
 case c3 => omega
 intro gb go cap w1 hs1 hgr1 hb1 hlt1; have hF0 : Fr (fun k => gv.ownBlock = some k) w w1 := (((Fr.refl _ w).alloc _).grown hgr1 fun k hk => .inl hk); have hobj1 := H.out.obj.fr hF0 H.out.own; have hg01 := hobj1.cell 0 rfl; have hf01 := hobj1.free 0; have K1 := zvr H.out hs1 hgr1 (by simpa using hb1); have hZl : (Z ++ [(zby rev, Value.slice none 0 0)]).length = Z.length + 1 := by simp
 have hl1 : w.heap.size + 1 ≤ w1.heap.size := by have := hgr1.size; simpa using this
 have hopen2 := zqp (Z.length + 1) _ g gb go cap _ last K1.1 hZl (by rw [List.map_append]; exact znt _ rev) (by omega); have hxl : (Z ++ [(zby rev, Value.slice none 0 0)])[Z.length]? = some (zby rev, .slice none 0 0) := by simp
 have hcp2 := SlF.cell (L := Z ++ [(zby rev, Value.slice none 0 0)]) (g := gb) (o := go) (cap := cap) zak (by rw [hZl]; exact K1.1.gens) Z.length 2 hxl rfl; have hfr2 := SlF.free (L := Z ++ [(zby rev, Value.slice none 0 0)]) (g := gb) (o := go) (cap := cap) (by rw [hZl]; exact K1.1.gens) (go + Z.length * 4 + 2); rw [World.frozen?_setCell] at hfr2; have hk1 : Z.length + 1 - 1 = Z.length := by omega
 rw [hk1] at hopen2; obtain ⟨w2, hw2⟩ : ∃ w2, w2 = w1.setCell ⟨g, 0, none⟩ (.slice (some ⟨gb, go, none⟩) (Z.length + 1) cap) := ⟨_, rfl⟩; rw [← hw2] at hopen2 hcp2 K1; have HK1 := H_ K1; have HZ := H_ hZl; clear hs1 hgr1 hg0 hg1 hnew hgs hj hobj1 hgl hxl K1 hZl hk1 hF0 hy0 hy1 hy2; go_wp2_with fail; rw [← hw2]; refine hopen2.mono ?_; clear hopen2; rintro e w' ⟨rfl, rfl⟩; have HS2 : Hid (w2.heap.size = w1.heap.size) := H_ (by rw [hw2]; simp); have hfr3 : w2.frozen? ⟨gb, go + Z.length * 4 + 2, none⟩ = false := by rw [hw2]; simpa using hfr2
 have hnew := zax w2 [Value.int .i64 rev] 3 (0, 0); have HW := H_ hw2; clear hw2 hfr2; clear hg01 hf01; go_wp2_with (at_builtin; refine zap (f := int1) rfl _ _ 76 rfl 3 i0 (.int .i64 0) 1 8 Tryz.underlying76 hi hz0 hz1 hz2 rfl (by decide) (.slice none 0 0) ([] : List Int) rfl (SlF.nil _ _ _ _) w2.heap.size 1 rev rfl hnew rfl ?c1 ?c2 ?c3 ?_)
 case c1 => intro u hu; simp [int1] at hu; subst hu; rfl
 case c2 => decide
 case c3 => decide
 intro pb po pc w3 hs3 hg3 hb3 hlt3; have hFr3 : Fr No w2 w3 := (((Fr.refl _ w2).alloc _).grown hg3 fun k hk => by simp [Value.ownBlock] at hk); have hcp3 := hFr3.cell0 hcp2; have hgb2 : gb < w2.heap.size := HK1.out.1.gens.lt gb rfl
 have hfr4 : w3.frozen? ⟨gb, go + Z.length * 4 + 2, none⟩ = false := by
  rw [World.frozen?_of_block (hFr3.block gb hgb2 fun s => s)]; exact hfr3
 have P3 := H_ (zuz (x := zby rev) (pv := .slice none 0 0) (Z.length + 1) HK1.out.1 HZ.out (by simp) hs3 hg3 (by simpa [Value.ownBlock] using hb3)); clear hs3 hg3 hb3 hFr3 hcp2 hfr3 hnew; go_wp2; go_ret; have P := P3.out; simp only [Nat.add_sub_cancel] at P; refine ⟨rfl, .slice (some ⟨gb, go, none⟩) (Z.length + 1) cap, .slice (some ⟨pb, po, none⟩) 1 pc, ?_, HK1.out.2.trans P.2.1 ?_, ?_, ?_⟩
 · have := P.1
   rw [List.set_append_right _ _ (by omega)] at this; simp only [Nat.sub_self, List.set_cons_zero] at this; exact this
 · intro k hk hk2
   rcases hk2 with rfl | e | ⟨i, q, hq, e⟩
   · exact .inl rfl
   · obtain rfl : gb = k := by simpa [Value.ownBlock] using e
     rcases hb1 with e | e
     · exact .inr (.inl e)
     omega
   rw [List.getElem?_append] at hq
   split at hq
   · exact .inr (.inr ⟨i, q, hq, e⟩)
   rw [List.getElem?_singleton] at hq
   split at hq
   · simp at hq; subst hq; simp [Value.ownBlock] at e
   cases hq
 · intro b hb
   rcases P.2.2 b hb with e | e
   · simp [Value.ownBlock] at e
   rw [HS2.out] at e; omega
 intro b hb
 obtain rfl : gb = b := by simpa [Value.ownBlock] using hb
 rcases hb1 with e | e
 · exact .inl e
 right; omega
end Go.Proofs.YthljnnjpmdgkoaaGreat