/- The chapter's examples of the store in plain terms. Plain facts; no program is run. -/
import Derived.Test.YthljnnjpmdgkoaaOps
import Derived.Test.YthljnnjpmdgkoaaCmpt
import Derived.Test.YthljnnjpmdgkoaaRng
namespace Go.Proofs.Ythljnnjpmdgkoaa
open Go Go.Proofs Go.RowKit
set_option maxRecDepth 100000

def bC : ByteArray := ⟨#[99]⟩
def b3 : ByteArray := ⟨#[51]⟩
def opsA : List Opr := [putO bA b1, putO bB b2]
def SA : St := applyS st0 opsA
def SB : St := applyS SA [putO bA b3]
def gDesc : Rg := ⟨bA, bC, 0, 1, false, false, true⟩
def gOld : Rg := ⟨bA, ByteArray.empty, 1, 0, false, false, false⟩

theorem chk_A : checkE opsA = 0 := by kernel_rfl
theorem chk_B : checkE [putO bA b3] = 0 := by kernel_rfl
theorem wh_A : whenAll st0 opsA = 0 := by kernel_rfl
theorem wh_B : whenAll SA [putO bA b3] = 0 := by kernel_rfl
theorem SA_rev : SA.rev = 1 := by kernel_rfl
theorem SB_rev : SB.rev = 2 := by kernel_rfl
theorem SB_mark : SB.mark = 0 := by kernel_rfl
theorem SA_len : SA.T.length = 2 := by kernel_rfl
theorem SB_T : SB.T = [(bA, 0), (bB, 1)] := by kernel_rfl
theorem SA_eq : SA = { doS (doS st0 (puttingS st0 (putO bA b1) 1)) (puttingS (doS st0 (puttingS st0 (putO bA b1) 1)) (putO bB b2) 1) with rev := 1 } := by kernel_rfl
theorem SA_ok : StOk 2 SA := by
  rw [SA_eq]
  exact (doS_ok (doS_ok (st0_ok 0) _ (by decide) (by decide)) _ (by decide) (by decide)).setRev 1 (by decide) (by decide)
theorem SB_eq : SB = { doS SA (puttingS SA (putO bA b3) 2) with rev := 2 } := by kernel_rfl
theorem SB_ok : StOk 3 SB := by
  rw [SB_eq]
  exact (doS_ok SA_ok _ (by decide) (by decide)).setRev 2 (by decide) (by decide)

theorem step_A : ∀ i o, opsA[i]? = some o → StepOk 9 2 1 (runR 1 ⟨st0, [], []⟩ (opsA.take i)) o := by
  intro i o h
  match i, h with
  | 0, h =>
    obtain rfl : putO bA b1 = o := by simpa [opsA] using h
    exact step_put bA b1 (st0_ok 2) (by decide) (by decide) rfl (by decide) (by decide) (by decide) 0 _ rfl
  | 1, h =>
    obtain rfl : putO bB b2 = o := by simpa [opsA] using h
    have h1 : (getT (doS st0 (puttingS st0 (putO bA b1) 1)).T bB).2 = false := by kernel_rfl
    have hl : livesS (doS st0 (puttingS st0 (putO bA b1) 1)) bB 1 = (kv0, false) := by unfold livesS; rw [h1]; rfl
    have hlen : (doS st0 (puttingS st0 (putO bA b1) 1)).T.length = 1 := by kernel_rfl
    show StepOk 9 2 1 ⟨doS st0 (puttingS st0 (putO bA b1) 1), _, _⟩ (putO bB b2)
    refine { st := (doS_ok (st0_ok 0) _ (by decide) (by decide)).mono (by omega), tree := by show (doS st0 (puttingS st0 (putO bA b1) 1)).T.length ≤ _; rw [hlen]; omega, evs := by decide, ans := by decide, key := by decide, put := fun _ => ?_, get := fun h => by simp [putO] at h, del := by simp [putO] }
    show 0 ≤ (livesS (doS st0 (puttingS st0 (putO bA b1) 1)) bB 1).1.version ∧ (livesS (doS st0 (puttingS st0 (putO bA b1) 1)) bB 1).1.version ≤ top ∧ DoOk 9 (doS st0 (puttingS st0 (putO bA b1) 1)) (puttingS (doS st0 (puttingS st0 (putO bA b1) 1)) (putO bB b2) 1)
    rw [hl]
    refine ⟨by simp [kv0], by simp [kv0, top], { m1 := by decide, m2 := by decide, last := fun H _ h => ?_, room := fun _ _ => by rw [hlen]; omega, opened := fun h => absurd rfl h }⟩
    have h' : (getT (doS st0 (puttingS st0 (putO bA b1) 1)).T bB).2 = true := h
    rw [h1] at h'
    cases h'
  | i + 2, h => simp [opsA] at h

theorem step_B : ∀ i o, [putO bA b3][i]? = some o → StepOk 9 3 (SA.rev + 1) (runR (SA.rev + 1) ⟨SA, [], []⟩ ([putO bA b3].take i)) o := by
  intro i o h
  obtain ⟨rfl, rfl⟩ := one_at0 h
  have hlv : (livesS SA bA 2).1.version = 1 := by kernel_rfl
  have hlast : (SA.past (getT SA.T bA).1).map (·.last) = some 1 := by kernel_rfl
  have hr : SA.rev + 1 = 2 := by rw [SA_rev]; rfl
  rw [hr]
  show StepOk 9 3 2 ⟨SA, _, _⟩ (putO bA b3)
  refine { st := SA_ok.mono (by omega), tree := by show SA.T.length ≤ _; rw [SA_len]; omega, evs := by decide, ans := by decide, key := by decide, put := fun _ => ?_, get := fun h => by simp [putO] at h, del := by simp [putO] }
  show 0 ≤ (livesS SA bA 2).1.version ∧ (livesS SA bA 2).1.version ≤ top ∧ DoOk 9 SA (puttingS SA (putO bA b3) 2)
  rw [hlv]
  refine ⟨by decide, by decide, { m1 := by decide, m2 := by decide, last := fun H hH _ => ?_, room := fun _ _ => by rw [SA_len]; omega, opened := fun h => absurd rfl h }⟩
  have h1 : SA.past (getT SA.T bA).1 = some H := hH
  rw [h1] at hlast
  simp at hlast
  rw [hlast]
  decide

theorem run_B_A : ((runR (SA.rev + 1) ⟨SA, [], []⟩ [putO bA b3]).A).map (fun a => a.count) = [1] := by kernel_rfl
theorem run_B_E : ((runR (SA.rev + 1) ⟨SA, [], []⟩ [putO bA b3]).E).map (fun x => x.prev.value) = [b1] := by kernel_rfl
theorem rng_e1 : rangeE SB gDesc = 0 := by kernel_rfl
theorem rng_e2 : rangeE SB gOld = 0 := by kernel_rfl
theorem rng_1 : (getL SB gDesc SB.rev).map (·.value) = [b2] := by kernel_rfl
theorem rng_1n : (allL SB gDesc SB.rev).length = 2 := by kernel_rfl
theorem rng_1m : moreB SB gDesc SB.rev = true := by kernel_rfl
theorem rng_2 : (getL SB gOld SB.rev).map (·.value) = [b1] := by kernel_rfl

def HA0 : Hist := ⟨[⟨1, 0, [1, 2], 0⟩], 2, fun r => if r = 2 then some ⟨bA, b3, 1, 2, 2, 0⟩ else if r = 1 then some ⟨bA, b1, 1, 1, 1, 0⟩ else none⟩
def HB0 : Hist := ⟨[⟨1, 0, [1], 0⟩], 1, fun r => if r = 1 then some ⟨bB, b2, 1, 1, 1, 0⟩ else none⟩
theorem past_0 : SB.past 0 = some HA0 := by kernel_rfl
theorem past_1 : SB.past 1 = some HB0 := by kernel_rfl
theorem comp_A : HA0.gens.map (compG 2) = [⟨1, 1, [2], 0⟩] := by kernel_rfl
theorem comp_B : HB0.gens.map (compG 2) = [⟨1, 0, [1], 0⟩] := by kernel_rfl

theorem SB_comp : CompOk SB 2 where
  r1 := by rw [SB_rev]; omega
  r2 := by rw [SB_mark]; omega
  evs := by
    have : SB.events.length = 3 := by kernel_rfl
    omega
  nodup := by rw [SB_T]; decide
  hist p hp H hH := by
    rw [SB_T] at hp
    simp only [List.mem_cons, List.not_mem_nil, or_false] at hp
    rcases hp with rfl | rfl
    · dsimp only at hH
      rw [past_0] at hH
      obtain rfl := Option.some.inj hH
      refine ⟨by decide, fun x hx => ?_, ?_, [1, 2], by decide, fun r hr => ?_⟩
      · simp [HA0] at hx; subst hx; decide
      · rw [comp_A]
        exact ⟨by decide, fun x hx => by simp at hx; subst hx; decide⟩
      · simp only [HA0] at hr
        by_cases h2 : r = 2
        · simp [h2]
        · rw [if_neg h2] at hr
          by_cases h1 : r = 1
          · simp [h1]
          · rw [if_neg h1] at hr; exact absurd rfl hr
    · dsimp only at hH
      rw [past_1] at hH
      obtain rfl := Option.some.inj hH
      refine ⟨by decide, fun x hx => ?_, ?_, [1], by decide, fun r hr => ?_⟩
      · simp [HB0] at hx; subst hx; decide
      · rw [comp_B]
        exact ⟨by decide, fun x hx => by simp at hx; subst hx; decide⟩
      · simp only [HB0] at hr
        by_cases h1 : r = 1
        · simp [h1]
        · rw [if_neg h1] at hr; exact absurd rfl hr
end Go.Proofs.Ythljnnjpmdgkoaa
