/- Whose a key is, behind each change of the program's table. Plain facts; no program. -/
import Derived.Test.YtlomeohcgjgpjaaLeaB
namespace Go.Proofs.Ytlomeohcgjgpjaa
open Go

theorem find_filter {α : Type} {p q : α → Bool} {L : List α} (h : ∀ x ∈ L, q x = true → p x = true) : (L.filter p).find? q = L.find? q := by
  induction L with
  | nil => rfl
  | cons x L ih =>
    have ih := ih fun y hy => h y (List.mem_cons_of_mem _ hy)
    by_cases hq : q x = true
    · rw [List.filter_cons_of_pos (h x (List.mem_cons_self ..) hq), List.find?_cons_of_pos hq, List.find?_cons_of_pos hq]
    · rw [List.find?_cons_of_neg hq]
      by_cases hp : p x = true
      · rw [List.filter_cons_of_pos hp, List.find?_cons_of_neg hq, ih]
      · rw [List.filter_cons_of_neg hp, ih]
theorem hasL_iff {key : ByteArray} {l : List ByteArray} : (l.any fun k => keq k key) = true ↔ key ∈ l := by
  rw [List.any_eq_true]
  constructor
  · rintro ⟨x, hx, e⟩
    exact keq_iff.1 e ▸ hx
  · exact fun h => ⟨key, h, keq_iff.2 rfl⟩
theorem TOk.one {n : Nat} {T : LT} (hT : TOk n T) {x y : Int × Ls} (hx : x ∈ T.L) (hy : y ∈ T.L) {k : ByteArray} (h1 : k ∈ x.2.keys) (h2 : k ∈ y.2.keys) : x.1 = y.1 := by
  have e1 := hT.ok.of (List.mem_map_of_mem hx) (k := k) h1
  have e2 := hT.ok.of (List.mem_map_of_mem hy) (k := k) h2
  rw [e1] at e2
  exact e2
theorem ofL_none {L : List (Int × Ls)} {k : ByteArray} (h : ∀ x ∈ L, k ∉ x.2.keys) : ofL L k = none := by
  unfold ofL
  rw [Option.map_eq_none_iff, List.find?_eq_none]
  exact fun x hx e => h x hx (hasL_iff.1 e)
theorem ofL_del {n : Nat} {T : LT} (hT : TOk n T) {id : Int} {l : Ls} (hl : getL T.L id = some l) (k : ByteArray) : ofL (delL T.L id) k = if (l.keys.any fun j => keq j k) then none else ofL T.L k := by
  have hm := getL_mem hl
  by_cases hk : k ∈ l.keys
  · rw [if_pos (hasL_iff.2 hk)]
    refine ofL_none fun x hx h => ?_
    obtain ⟨h1, h2⟩ := List.mem_filter.1 hx
    have := hT.one h1 hm h hk
    simp [this] at h2
  · rw [if_neg (fun e => hk (hasL_iff.1 e))]
    unfold ofL delL
    rw [find_filter]
    intro x hx h
    have h1 := hasL_iff.1 h
    simp only [Bool.not_eq_true', beq_eq_false_iff_ne, ne_eq]
    intro e
    have := uniqL hT.rise hx hm e
    rw [this] at h1
    exact hk h1
theorem find_map_same {α : Type} {g : α → α} {q : α → Bool} {L : List α} (h : ∀ x ∈ L, q (g x) = q x) : (L.map g).find? q = (L.find? q).map g := by
  induction L with
  | nil => rfl
  | cons x L ih =>
    rw [List.map_cons, List.find?_cons, List.find?_cons, h x (List.mem_cons_self ..)]
    cases q x with
    | true => rfl
    | false => exact ih fun y hy => h y (List.mem_cons_of_mem _ hy)
theorem setL_fst {id : Int} {f : Ls → Ls} (x : Int × Ls) : (if x.1 = id then (x.1, f x.2) else x).1 = x.1 := by split <;> rfl
theorem ofL_delK {n : Nat} {T : LT} (hT : TOk n T) {id : Int} {key : ByteArray} (ho : ofL T.L key = some id) (k : ByteArray) : ofL (setL T.L id fun l => { l with keys := delK key l.keys }) k = if k = key then none else ofL T.L k := by
  by_cases hk : k = key
  · subst hk
    rw [if_pos rfl]
    refine ofL_none fun y hy h => ?_
    obtain ⟨x, hx, e1, e2⟩ := setL_mem hy
    rw [e2] at h
    split at h
    · exact (delK_mem.1 h).2 rfl
    · rename_i hne
      have h1 := hT.ok.of (List.mem_map_of_mem hx) (k := k) h
      have h2 := ofL_view T.L T.now k
      rw [ho] at h2
      unfold LT.view at h1
      rw [h2] at h1
      exact hne (by rw [← e1]; exact h1.symm)
  · rw [if_neg hk]
    unfold ofL setL
    rw [find_map_same, Option.map_map]
    · congr 1
      funext x
      dsimp only [Function.comp]
      split <;> rfl
    · intro x _
      split
      · rw [Bool.eq_iff_iff, hasL_iff, hasL_iff]
        dsimp only
        rw [delK_mem]
        exact ⟨fun h => h.1, fun h => ⟨h, hk⟩⟩
      · rfl
theorem ofL_insK {n : Nat} {T : LT} (_hT : TOk n T) {id : Int} {l : Ls} (hl : getL T.L id = some l) {key : ByteArray} (hno : ∀ x ∈ T.L, key ∉ x.2.keys) (k : ByteArray) : ofL (setL T.L id fun l => { l with keys := insK key l.keys }) k = if k = key then some id else ofL T.L k := by
  have hm := getL_mem hl
  by_cases hk : k = key
  · subst hk
    rw [if_pos rfl]
    unfold ofL setL
    clear _hT hl
    obtain ⟨L, now, q⟩ := T
    dsimp only at hm hno ⊢
    induction L with
    | nil => simp at hm
    | cons x L ih =>
      rw [List.map_cons, List.find?_cons]
      by_cases e : x.1 = id
      · rw [if_pos e]
        have h1 : ((insK k x.2.keys).any fun j => keq j k) = true := hasL_iff.2 (insK_mem.2 (.inl rfl))
        dsimp only
        rw [h1]
        simp only [Option.map_some, e]
      · rw [if_neg e]
        have h1 : (x.2.keys.any fun j => keq j k) = false := by
          rw [Bool.eq_false_iff]
          exact fun h => hno x (List.mem_cons_self ..) (hasL_iff.1 h)
        rw [h1]
        refine ih ?_ (fun y hy => hno y (List.mem_cons_of_mem _ hy))
        rcases List.mem_cons.1 hm with h | h
        · exact absurd (by rw [← h]) e
        · exact h
  · rw [if_neg hk]
    unfold ofL setL
    rw [find_map_same, Option.map_map]
    · congr 1
      funext x
      dsimp only [Function.comp]
      split <;> rfl
    · intro x _
      split
      · rw [Bool.eq_iff_iff, hasL_iff, hasL_iff]
        dsimp only
        rw [insK_mem]
        exact ⟨fun h => h.resolve_left hk, .inr⟩
      · rfl
end Go.Proofs.Ytlomeohcgjgpjaa
