/- Ops of the chapters' examples: a put of a key, a get; what they ask of a run. Plain facts; no program is run. -/
import Derived.Test.YthljnnjpmdgkoaaLoop
import Derived.Test.YthljnnjpmdgkoaaPlain
namespace Go.Proofs.Ythljnnjpmdgkoaa
open Go Go.Proofs Go.RowKit
set_option maxRecDepth 100000

def rg0 (key : ByteArray) : Rg := ⟨key, ByteArray.empty, 0, 0, false, false, false⟩
def bA : ByteArray := ⟨#[97]⟩
def bB : ByteArray := ⟨#[98]⟩
def b1 : ByteArray := ⟨#[49]⟩
def b2 : ByteArray := ⟨#[50]⟩
def putO (k v : ByteArray) : Opr := ⟨1, rg0 k, v, 0⟩
def getO (k : ByteArray) : Opr := ⟨3, rg0 k, ByteArray.empty, 0⟩
theorem one_at0 {α : Type} {a o : α} {i : Nat} (h : [a][i]? = some o) : i = 0 ∧ o = a := by
  cases i with
  | zero => simp at h; exact ⟨rfl, h.symm⟩
  | succ i => simp at h

/-- A put of a key that is not there. -/
theorem step_put {N n : Nat} {S : St} {rev : Int} (k v : ByteArray) (hok : StOk n S) (hT : S.T.length ≤ 1099511627) (hk : k.size ≤ 1099511627776) (hnew : (getT S.T k).2 = false) (hroom : S.T.length < N) (h1 : 1 ≤ rev) (h2 : rev ≤ top) :
    ∀ i o, [putO k v][i]? = some o → StepOk N n rev (runR rev ⟨S, [], []⟩ ([putO k v].take i)) o := by
  intro i o h
  obtain ⟨rfl, rfl⟩ := one_at0 h
  have hl : livesS S k rev = (kv0, false) := by unfold livesS; rw [hnew]; rfl
  refine { st := hok, tree := hT, evs := by simp [runR], ans := by simp [runR], key := hk, put := fun _ => ?_, get := fun h => by simp [putO] at h, del := by simp [putO] }
  show 0 ≤ (livesS S k rev).1.version ∧ (livesS S k rev).1.version ≤ top ∧ DoOk N S (puttingS S (putO k v) rev)
  rw [hl]
  refine ⟨by simp [kv0], by simp [kv0, top], { m1 := h1, m2 := h2, last := fun H _ h => ?_, room := fun _ _ => hroom, opened := fun h => absurd rfl h }⟩
  have h' : (getT S.T k).2 = true := h
  rw [hnew] at h'
  cases h'
theorem step_get {N n : Nat} {S : St} {rev : Int} (k : ByteArray) (hok : StOk n S) (hT : S.T.length ≤ 1099511627) (hk : k.size ≤ 1099511627776) :
    ∀ i o, [getO k][i]? = some o → StepOk N n rev (runR rev ⟨S, [], []⟩ ([getO k].take i)) o := by
  intro i o h
  obtain ⟨rfl, rfl⟩ := one_at0 h
  exact { st := hok, tree := hT, evs := by simp [runR], ans := by simp [runR], key := hk, put := fun h => by simp [getO] at h, get := fun _ => ⟨rfl, rfl⟩, del := by simp [getO] }

theorem slR_ops {W : World} {b : Nat} {o : Opr} {t : TypeId} (h : W.heap[b]? = some (.cells (opC o).toArray t (0, 0))) : SlR W 10 opC (.slice (some ⟨b, 0, none⟩) 1 1) [o] := by
  refine ⟨_, 1, rfl, by simp, by decide, fun _ => ⟨b, 0, rfl, fun i x hx j u hu => ?_⟩⟩
  obtain ⟨rfl, rfl⟩ := one_at0 hx
  unfold World.cell?
  simp only [h, Nat.zero_mul, Nat.zero_add, Option.isSome_none, Bool.false_eq_true, if_false]
  simpa using hu
end Go.Proofs.Ythljnnjpmdgkoaa
