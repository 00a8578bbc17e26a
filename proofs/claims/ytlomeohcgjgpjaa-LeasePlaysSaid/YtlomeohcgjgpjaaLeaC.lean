/- A heap of pairs as container/heap keeps it: what a step up and a step down keep. Plain facts; no program. -/
import Derived.Test.YtlomeohcgjgpjaaLeaB
namespace Go.Proofs.Ytlomeohcgjgpjaa
open Go

abbrev Ent := Int × Int
def swp (q : List Ent) (i j : Nat) : List Ent := (q.set i (q[j]?.getD (0, 0))).set j (q[i]?.getD (0, 0))
theorem swp_length (q : List Ent) (i j : Nat) : (swp q i j).length = q.length := by simp [swp]
theorem swp_get {q : List Ent} {i j : Nat} (hi : i < q.length) (hj : j < q.length) (k : Nat) : (swp q i j)[k]? = if k = j then q[i]? else if k = i then q[j]? else q[k]? := by
  unfold swp
  by_cases h1 : k = j
  · subst h1
    rw [if_pos rfl, List.getElem?_set_self (by simpa using hj), List.getElem?_eq_getElem hi]; rfl
  · rw [if_neg h1, List.getElem?_set_ne (fun e => h1 e.symm)]
    by_cases h2 : k = i
    · subst h2
      rw [if_pos rfl, List.getElem?_set_self hi, List.getElem?_eq_getElem hj]; rfl
    · rw [if_neg h2, List.getElem?_set_ne (fun e => h2 e.symm)]
theorem swp_perm {q : List Ent} {i j : Nat} (hi : i < q.length) (hj : j < q.length) : (swp q i j).Perm q := by
  have h := Array.swap_perm (xs := q.toArray) (i := i) (j := j) (by simpa using hi) (by simpa using hj)
  have h2 := h.toList
  rw [Array.toList_swap] at h2
  unfold swp
  rw [List.getElem?_eq_getElem hi, List.getElem?_eq_getElem hj]
  simpa using h2

def UpInv (q : List Ent) (j : Nat) : Prop :=
  (∀ k a b, 0 < k → k ≠ j → q[(k - 1) / 2]? = some a → q[k]? = some b → a.1 ≤ b.1) ∧
  ∀ c a b, 0 < j → 0 < c → (c - 1) / 2 = j → q[(j - 1) / 2]? = some a → q[c]? = some b → a.1 ≤ b.1
theorem UpInv.start {q : List Ent} (h : HeapOk q) (e : Ent) : UpInv (q ++ [e]) q.length := by
  have hl : ∀ k b, k ≠ q.length → (q ++ [e])[k]? = some b → k < q.length ∧ q[k]? = some b := by
    intro k b hk hb
    have h1 := (List.getElem?_eq_some_iff.1 hb).1
    rw [List.length_append, List.length_singleton] at h1
    have h2 : k < q.length := by omega
    exact ⟨h2, by rwa [List.getElem?_append_left h2] at hb⟩
  refine ⟨fun k a b h0 hk ha hb => ?_, fun c a b h0 hc hp ha hb => ?_⟩
  · obtain ⟨h1, h2⟩ := hl k b hk hb
    obtain ⟨h3, h4⟩ := hl _ a (by omega) ha
    exact h k a b h0 h4 h2
  · have h1 := (List.getElem?_eq_some_iff.1 hb).1
    rw [List.length_append, List.length_singleton] at h1
    omega
theorem UpInv.step {q : List Ent} {j : Nat} (h : UpInv q j) (hj : 0 < j) {a b : Ent} (ha : q[(j - 1) / 2]? = some a) (hb : q[j]? = some b) (hlt : b.1 < a.1) : UpInv (swp q ((j - 1) / 2) j) ((j - 1) / 2) := by
  obtain ⟨h1, h2⟩ := h
  have hjl := (List.getElem?_eq_some_iff.1 hb).1
  have hil := (List.getElem?_eq_some_iff.1 ha).1
  have hij : (j - 1) / 2 < j := by omega
  generalize hi : (j - 1) / 2 = i at *
  have hg := swp_get hil hjl
  refine ⟨fun k x y h0 hk hx hy => ?_, fun c x y h0 hc hp hx hy => ?_⟩
  · rw [hg] at hx hy
    by_cases e1 : k = j
    · subst e1
      rw [if_pos rfl, ha] at hy
      rw [hi, if_neg (by omega), if_pos rfl, hb] at hx
      cases hx; cases hy; omega
    · rw [if_neg e1, if_neg hk] at hy
      by_cases e2 : (k - 1) / 2 = j
      · rw [if_pos e2, ha] at hx
        cases hx
        exact h2 k a y hj h0 e2 (by rw [ha]) hy
      · rw [if_neg e2] at hx
        by_cases e3 : (k - 1) / 2 = i
        · rw [if_pos e3, hb] at hx
          cases hx
          have := h1 k a y h0 e1 (by rw [e3]; exact ha) hy
          omega
        · rw [if_neg e3] at hx
          exact h1 k x y h0 e1 hx hy
  · rw [hg] at hx hy
    rw [if_neg (by omega), if_neg (by omega)] at hx
    have h3 := h1 i x a h0 (by omega) hx ha
    by_cases e1 : c = j
    · rw [if_pos e1, ha] at hy
      cases hy; exact h3
    · rw [if_neg e1, if_neg (by omega)] at hy
      have := h1 c a y hc e1 (by rw [hp]; exact ha) hy
      omega
theorem UpInv.done {q : List Ent} {j : Nat} (h : UpInv q j) (hd : j = 0 ∨ ∃ a b, q[(j - 1) / 2]? = some a ∧ q[j]? = some b ∧ ¬ b.1 < a.1) : HeapOk q := by
  intro k x y h0 hx hy
  by_cases e : k = j
  · subst e
    rcases hd with h | ⟨a, b, ha, hb, hn⟩
    · omega
    · rw [ha] at hx; rw [hb] at hy
      cases hx; cases hy; omega
  · exact h.1 k x y h0 e hx hy

def DownInv (q : List Ent) (n i : Nat) : Prop :=
  (∀ k a b, 0 < k → k < n → (k - 1) / 2 ≠ i → q[(k - 1) / 2]? = some a → q[k]? = some b → a.1 ≤ b.1) ∧
  ∀ c a b, 0 < i → 0 < c → c < n → (c - 1) / 2 = i → q[(i - 1) / 2]? = some a → q[c]? = some b → a.1 ≤ b.1
theorem DownInv.start {q : List Ent} (h : HeapOk q) {n : Nat} (hn : q.length = n + 1) : DownInv (swp q 0 n) n 0 := by
  have hg := swp_get (q := q) (i := 0) (j := n) (by omega) (by omega)
  refine ⟨fun k a b h0 hk hp ha hb => ?_, fun c a b h0 => absurd h0 (by omega)⟩
  rw [hg, if_neg (by omega), if_neg (by omega)] at ha hb
  exact h k a b h0 ha hb
theorem DownInv.step {q : List Ent} {n i j : Nat} (h : DownInv q n i) (hn : n ≤ q.length) (hj0 : 0 < j) (hj : j < n) (hp : (j - 1) / 2 = i) {a b : Ent} (ha : q[i]? = some a) (hb : q[j]? = some b) (hlt : b.1 < a.1)
    (hmin : ∀ c d, 0 < c → c < n → (c - 1) / 2 = i → q[c]? = some d → b.1 ≤ d.1) : DownInv (swp q i j) n j := by
  obtain ⟨h1, h2⟩ := h
  have hij : i < j := by omega
  have hg := swp_get (q := q) (i := i) (j := j) (by omega) (by omega)
  refine ⟨fun k x y h0 hk hkp hx hy => ?_, fun c x y h0 hc hcn hcp hx hy => ?_⟩
  · rw [hg] at hx hy
    by_cases e1 : k = j
    · rw [if_pos e1, ha] at hy
      rw [e1, hp, if_neg (by omega), if_pos rfl, hb] at hx
      cases hx; cases hy; omega
    · rw [if_neg e1] at hy
      rw [if_neg hkp] at hx
      by_cases e2 : k = i
      · rw [if_pos e2, hb] at hy
        rw [if_neg (by omega), e2] at hx
        cases hy
        exact h2 j x b (by omega) hj0 hj hp hx hb
      · rw [if_neg e2] at hy
        by_cases e3 : (k - 1) / 2 = i
        · rw [if_pos e3, hb] at hx
          cases hx
          exact hmin k y h0 hk e3 hy
        · rw [if_neg e3] at hx
          exact h1 k x y h0 hk e3 hx hy
  · rw [hg] at hx hy
    rw [hp, if_neg (by omega), if_pos rfl, hb] at hx
    rw [if_neg (by omega), if_neg (by omega)] at hy
    cases hx
    exact h1 c b y hc hcn (by omega) (by rw [hcp]; exact hb) hy
theorem DownInv.done {q : List Ent} {n i : Nat} (h : DownInv q n i) (hd : n ≤ 2 * i + 1 ∨ ∃ a b, q[i]? = some a ∧ ¬ b < a.1 ∧ ∀ c d, 0 < c → c < n → (c - 1) / 2 = i → q[c]? = some d → b ≤ d.1) : HeapOk (q.take n) := by
  intro k x y h0 hx hy
  rw [List.getElem?_take] at hx hy
  split at hy
  · rename_i hk
    rw [if_pos (by omega)] at hx
    by_cases e : (k - 1) / 2 = i
    · rcases hd with h3 | ⟨a, b, ha, hn, hc⟩
      · omega
      · have := hc k y h0 hk e hy
        rw [e, ha] at hx
        cases hx; omega
    · exact h.1 k x y h0 hk e hx hy
  · cases hy
/-- The child that is lower. -/
theorem low_child {q : List Ent} {n i : Nat} {b1 : Ent} (h1 : q[2 * i + 1]? = some b1) (h2 : n ≤ 2 * i + 2 ∨ ∃ b2, q[2 * i + 2]? = some b2 ∧ ¬ b2.1 < b1.1) :
    ∀ c d, 0 < c → c < n → (c - 1) / 2 = i → q[c]? = some d → b1.1 ≤ d.1 := by
  intro c d h0 hc hp hd
  by_cases e : c = 2 * i + 1
  · subst e; rw [h1] at hd; cases hd; exact Int.le_refl _
  · obtain rfl : c = 2 * i + 2 := by omega
    rcases h2 with h2 | ⟨b2, h2, h3⟩
    · omega
    · rw [h2] at hd; cases hd; omega
theorem low_child2 {q : List Ent} {n i : Nat} {b1 b2 : Ent} (h1 : q[2 * i + 1]? = some b1) (h2 : q[2 * i + 2]? = some b2) (h3 : b2.1 < b1.1) :
    ∀ c d, 0 < c → c < n → (c - 1) / 2 = i → q[c]? = some d → b2.1 ≤ d.1 := by
  intro c d h0 hc hp hd
  by_cases e : c = 2 * i + 1
  · subst e; rw [h1] at hd; cases hd; omega
  · obtain rfl : c = 2 * i + 2 := by omega
    rw [h2] at hd; cases hd; exact Int.le_refl _
/-- The last one taken off, where the first one was laid behind all. -/
theorem pop_perm {q p : List Ent} {n : Nat} (hn : q.length = n + 1) (hp : p.Perm (swp q 0 n)) {a : Ent} (_ha : q[0]? = some a) (hl : p[n]? = some a) : q.Perm (a :: p.take n) := by
  have h1 : p.length = n + 1 := by rw [hp.length_eq, swp_length, hn]
  have h2 : p = p.take n ++ [a] := by
    conv => lhs; rw [← List.take_append_drop n p]
    congr 1
    rw [List.drop_eq_getElem_cons (by omega), List.drop_of_length_le (by omega)]
    rw [List.getElem?_eq_getElem (by omega)] at hl
    rw [Option.some.inj hl]
  have h3 := (hp.trans (swp_perm (by omega) (by omega))).symm
  refine h3.trans ?_
  conv => lhs; rw [h2]
  exact List.perm_append_singleton ..
end Go.Proofs.Ytlomeohcgjgpjaa
