/- Answers in memory (AnsAt), and what a run of ops does to a store in plain terms (stepS, runS). Plain facts; no program is run. -/
import Derived.Test.YthljnnjpmdgkoaaLay
import Derived.Test.YthljnnjpmdgkoaaGet
import Derived.Test.YthljnnjpmdgkoaaCheck
namespace Go.Proofs.Ythljnnjpmdgkoaa
open Go Go.Proofs Go.RowKit
set_option maxRecDepth 100000

/-- An answer. -/
structure Ans where
  kind : Int
  kvs : List Kv
  count : Int
  more : Bool
def ansC (q : Ans × Value) : List Value := [.int .i64 q.1.kind, q.2, .int .i64 q.1.count, .bool q.1.more]
theorem ansC_length (q : Ans × Value) : (ansC q).length = 4 := rfl

structure AnsR (w : World) (v : Value) (Z : List (Ans × Value)) : Prop where
  sl : SlF w 90 4 ansC v Z
  kvs : ∀ (i : Nat) (q : Ans × Value), Z[i]? = some q → SlF w 57 6 kvC q.2 q.1.kvs
  apart : ∀ (i : Nat) (q : Ans × Value), Z[i]? = some q → ∀ b, q.2.ownBlock = some b → v.ownBlock ≠ some b
def ansF (v : Value) (Z : List (Ans × Value)) (b : Nat) : Prop := v.ownBlock = some b ∨ ∃ (i : Nat) (q : Ans × Value), Z[i]? = some q ∧ q.2.ownBlock = some b
theorem AnsR.nil (w : World) : AnsR w (.slice none 0 0) [] := ⟨SlF.nil _ _ _ _, by simp, by simp⟩
theorem AnsR.lt {w : World} {v : Value} {Z : List (Ans × Value)} (h : AnsR w v Z) : ∀ b, ansF v Z b → b < w.heap.size := by
  rintro b (e | ⟨i, q, hq, e⟩)
  · exact h.sl.lt b e
  · exact (h.kvs i q hq).lt b e
theorem AnsR.fr {w w' : World} {v : Value} {Z : List (Ans × Value)} {S : Nat → Prop} (h : AnsR w v Z) (hf : Fr S w w') (hn : ∀ b, ansF v Z b → ¬ S b) : AnsR w' v Z :=
  ⟨h.sl.fr hf fun b e => hn b (.inl e), fun i q hq => (h.kvs i q hq).fr hf fun b e => hn b (.inr ⟨i, q, hq, e⟩), h.apart⟩

/-- An answer more. -/
theorem AnsR.snoc {w w' : World} {v v' : Value} {Z : List (Ans × Value)} {a : Ans} {kv : Value} (h : AnsR w v Z) (hf : Fr (fun b => v.ownBlock = some b) w w') (hs : SlF w' 90 4 ansC v' (Z ++ [(a, kv)]))
    (hk : SlF w 57 6 kvC kv a.kvs) (hd : ∀ b, kv.ownBlock = some b → v.ownBlock ≠ some b) (hn : ∀ b, v'.ownBlock = some b → v.ownBlock = some b ∨ w.heap.size ≤ b) : AnsR w' v' (Z ++ [(a, kv)]) := by
  have key : ∀ (i : Nat) (q : Ans × Value), (Z ++ [(a, kv)])[i]? = some q → (Z[i]? = some q) ∨ q = (a, kv) := by
    intro i q hq
    by_cases hi : i < Z.length
    · rw [List.getElem?_append_left hi] at hq; exact .inl hq
    · rw [List.getElem?_append_right (by omega)] at hq
      right
      have : i - Z.length = 0 := by
        have := (List.getElem?_eq_some_iff.1 hq).1
        simp at this; omega
      rw [this] at hq
      simpa using hq.symm
  refine ⟨hs, fun i q hq => ?_, fun i q hq b hb e => ?_⟩
  · rcases key i q hq with h1 | rfl
    · exact (h.kvs i q h1).fr hf fun b e => h.apart i q h1 b e
    · exact hk.fr hf hd
  · rcases key i q hq with h1 | rfl
    · rcases hn b e with h2 | h2
      · exact h.apart i q h1 b hb h2
      · have := (h.kvs i q h1).lt b hb; omega
    · rcases hn b e with h2 | h2
      · exact hd b hb h2
      · have := hk.lt b hb; omega

/-- The event of a delete. -/
def goneE (x : Kv) (rev : Int) : Ev := ⟨2, ⟨x.key, ByteArray.empty, 0, rev, 0, 0⟩, x⟩
/-- A run of ops: the store, the answers, the events. -/
structure Run where
  S : St
  A : List Ans
  E : List Ev
def goneR (rev : Int) (r : St × List Kv × List Ev) (x : Kv) : St × List Kv × List Ev := (doS r.1 (goneE x rev), r.2.1 ++ told (goneE x rev), r.2.2 ++ [goneE x rev])
def stepR (rev : Int) (r : Run) (o : Opr) : Run :=
  if o.kind = 1 then ⟨doS r.S (puttingS r.S o rev), r.A ++ [⟨1, told (puttingS r.S o rev), (told (puttingS r.S o rev)).length, false⟩], r.E ++ [puttingS r.S o rev]⟩
  else if o.kind = 2 then
    let q := (betweenS r.S o.rg.key o.rg.end_ rev).foldl (goneR rev) (r.S, [], r.E)
    ⟨q.1, r.A ++ [⟨2, q.2.1, q.2.1.length, false⟩], q.2.2⟩
  else if o.kind = 3 then ⟨r.S, r.A ++ [⟨3, getL r.S o.rg rev, (allL r.S o.rg rev).length, moreB r.S o.rg rev⟩], r.E⟩
  else ⟨r.S, r.A ++ [⟨o.kind, [], 0, false⟩], r.E⟩
def runR (rev : Int) (r : Run) (ops : List Opr) : Run := ops.foldl (stepR rev) r
/-- The first error of the gets' revisions. -/
def whenAll (S : St) (ops : List Opr) : Int := match ops.find? fun o => o.kind == 3 && whenE S o.rg.rev != 0 with
  | some o => whenE S o.rg.rev
  | none => 0
/-- What Apply answers where it changes nothing (0: it goes on). -/
def applyE (S : St) (ops : List Opr) : Int := if checkE ops ≠ 0 then checkE ops else whenAll S ops
/-- The store behind an Apply. -/
def applyS (S : St) (ops : List Opr) : St :=
  let r := runR (S.rev + 1) ⟨S, [], []⟩ ops
  if r.E = [] then r.S else { r.S with rev := S.rev + 1 }
end Go.Proofs.Ythljnnjpmdgkoaa
