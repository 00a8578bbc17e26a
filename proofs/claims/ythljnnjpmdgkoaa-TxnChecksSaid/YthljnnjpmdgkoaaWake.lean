/- The chapter's examples in plain terms: a store of one key, and of two. Plain facts; no program is run. -/
import Derived.Test.YthljnnjpmdgkoaaRun
import Derived.Test.YthljnnjpmdgkoaaPlain
namespace Go.Proofs.Ythljnnjpmdgkoaa
open Go Go.Proofs Go.RowKit
set_option maxRecDepth 100000

def bA : ByteArray := ⟨#[97]⟩
def bB : ByteArray := ⟨#[98]⟩
def b1 : ByteArray := ⟨#[49]⟩
def b2 : ByteArray := ⟨#[50]⟩
def putO (k v : ByteArray) : Opr := ⟨1, rg0 k, v, 0⟩
def getO (k : ByteArray) : Opr := ⟨3, rg0 k, ByteArray.empty, 0⟩
def noneC : Cmp := ⟨bA, 2, 0, 0, ByteArray.empty⟩
def oneC : Cmp := ⟨bA, 1, 0, 1, ByteArray.empty⟩
def sixC : Cmp := ⟨bA, 6, 0, 0, ByteArray.empty⟩

def S1 : St := applyS st0 [putO bA b1]
def S2 : St := applyS S1 [putO bB b2]

theorem keyE_A : keyE bA = 0 := by kernel_rfl
theorem keyE_B : keyE bB = 0 := by kernel_rfl
theorem chk_a : checkE [putO bA b1] = 0 := by kernel_rfl
theorem chk_b : checkE [putO bB b2] = 0 := by kernel_rfl
theorem chk_c : txnE [noneC] [putO bA b2] [getO bA] = 0 := by kernel_rfl
theorem chk_d : txnE [] [putO bB b2] [] = 0 := by kernel_rfl
theorem chk_e : txnE [sixC] [] [] = 1 := by kernel_rfl
theorem chk_f : cmpE oneC = 0 := by kernel_rfl
theorem wh_a : whenAll st0 [putO bA b1] = 0 := by kernel_rfl
theorem S1_rev : S1.rev = 1 := by kernel_rfl
theorem S2_rev : S2.rev = 2 := by kernel_rfl
theorem hold_none : holdsB S1 noneC = false := by kernel_rfl
theorem hold_one : holdsB S2 oneC = true := by kernel_rfl
theorem wh_b : whenAll S1 [getO bA] = 0 := by kernel_rfl
theorem wh_c : whenAll S1 [putO bB b2] = 0 := by kernel_rfl

theorem one_at0 {α : Type} {a o : α} {i : Nat} (h : [a][i]? = some o) : i = 0 ∧ o = a := by
  cases i with
  | zero => simp at h; exact ⟨rfl, h.symm⟩
  | succ i => simp at h

/-- A put of a key that is not there. -/
theorem step_put {N n : Nat} {S : St} {rev : Int} (k v : ByteArray) (hok : StOk n S) (hT : S.T.length ≤ 1099511627) (hk : k.size ≤ 1099511627776) (hnew : (getT S.T k).2 = false) (hroom : S.T.length < N) (h1 : 1 ≤ rev) (h2 : rev ≤ top) :
    ∀ i o, [putO k v][i]? = some o → StepOk N n rev (runR rev ⟨S, [], []⟩ ([putO k v].take i)) o := by
  intro i o h
  obtain ⟨rfl, rfl⟩ := one_at0 h
  have hl : livesS S k rev = (kv0, false) := by unfold livesS; rw [hnew]; rfl
  refine { st := hok, tree := hT, evs := by simp [runR], ans := by simp [runR], key := hk, put := fun _ => ?_, get := fun h => by simp [putO] at h, del := by simp [putO] }
  show 0 ≤ (livesS S k rev).1.version ∧ (livesS S k rev).1.version ≤ top ∧ DoOk N S (puttingS S (putO k v) rev)
  rw [hl]
  refine ⟨by simp [kv0], by simp [kv0, top], { m1 := h1, m2 := h2, last := fun H _ h => ?_, room := fun _ _ => hroom, opened := fun h => absurd rfl h }⟩
  have h' : (getT S.T k).2 = true := h
  rw [hnew] at h'
  cases h'
theorem step_get {N n : Nat} {S : St} {rev : Int} (k : ByteArray) (hok : StOk n S) (hT : S.T.length ≤ 1099511627) (hk : k.size ≤ 1099511627776) :
    ∀ i o, [getO k][i]? = some o → StepOk N n rev (runR rev ⟨S, [], []⟩ ([getO k].take i)) o := by
  intro i o h
  obtain ⟨rfl, rfl⟩ := one_at0 h
  exact { st := hok, tree := hT, evs := by simp [runR], ans := by simp [runR], key := hk, put := fun h => by simp [getO] at h, get := fun _ => ⟨rfl, rfl⟩, del := by simp [getO] }

theorem S1_eq : S1 = { doS st0 (puttingS st0 (putO bA b1) 1) with rev := 1 } := by kernel_rfl
theorem S1_ok : StOk 1 S1 := by
  rw [S1_eq]
  exact (doS_ok (st0_ok 0) _ (by decide) (by decide)).setRev 1 (by decide) (by decide)
theorem S2_eq : S2 = { doS S1 (puttingS S1 (putO bB b2) 2) with rev := 2 } := by kernel_rfl
theorem S2_ok : StOk 2 S2 := by
  rw [S2_eq]
  exact (doS_ok S1_ok _ (by decide) (by decide)).setRev 2 (by decide) (by decide)
theorem S1_len : S1.T.length = 1 := by kernel_rfl
theorem S2_len : S2.T.length = 2 := by kernel_rfl
theorem S1_get : (getT S1.T bB).2 = false := by kernel_rfl
theorem S1_same : applyS S1 [getO bA] = S1 := by kernel_rfl
theorem run_get_A : ((runR (S1.rev + 1) ⟨S1, [], []⟩ [getO bA]).A).map (fun a => (a.kvs.length, a.count)) = [(1, 1)] := by kernel_rfl
theorem run_b_E : (runR (S1.rev + 1) ⟨S1, [], []⟩ [putO bB b2]).E.length = 1 := by kernel_rfl
end Go.Proofs.Ythljnnjpmdgkoaa
