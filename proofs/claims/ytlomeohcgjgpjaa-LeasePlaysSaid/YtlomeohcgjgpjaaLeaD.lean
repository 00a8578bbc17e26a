/- What a call does to the table that the document tells of, and the laws of such tables (times, ticks in parts). Plain facts; no program. -/
import Derived.Test.YtlomeohcgjgpjaaLeaB
namespace Go.Proofs.Ytlomeohcgjgpjaa
open Go

structure LOp where
  kind : Int
  id : Int
  n : Int
  key : ByteArray
structure LAns where
  e : Int
  n : Int
  keys : List ByteArray
  told : List Int
def stepR (R : List LV) (o : LOp) : LAns × List LV :=
  if o.kind % 8 = 0 then (⟨grantE R o.id o.n, 0, [], []⟩, if grantE R o.id o.n = 0 then grantR R o.id o.n else R)
  else if o.kind % 8 = 1 then match getR R o.id with
    | none => (⟨35, 0, [], []⟩, R)
    | some x => (⟨0, 0, x.keys, []⟩, revokeR R o.id)
  else if o.kind % 8 = 2 then match getR R o.id with
    | none => (⟨35, 0, [], []⟩, R)
    | some x => (⟨0, x.ticks, [], []⟩, renewR R o.id)
  else if o.kind % 8 = 3 ∨ o.kind % 8 = 4 then match getR R o.id with
    | none => (⟨35, 0, [], []⟩, R)
    | some _ => (⟨0, 0, [], []⟩, attachR R o.id o.key)
  else if o.kind % 8 = 5 then (⟨0, ofR R o.key, [], []⟩, detachR R o.key)
  else (⟨0, 0, [], toldR R o.n⟩, tickR R o.n)
def stepsR (R : List LV) (l : List LOp) : List LV := l.foldl (fun R o => (stepR R o).2) R
def OpIn (o : LOp) : Prop := o.id ≤ maxI ∧ o.key.size ≤ maxLen
theorem ROk.step {n : Nat} {R : List LV} (h : ROk n R) {o : LOp} (ho : OpIn o) : ROk (n + 1) (stepR R o).2 := by
  unfold stepR
  have hu := h.up (Nat.le_succ n)
  by_cases h0 : o.kind % 8 = 0
  · rw [if_pos h0]
    dsimp only
    split
    · exact h.grant (by assumption) ho.1
    · exact hu
  rw [if_neg h0]
  by_cases h1 : o.kind % 8 = 1
  · rw [if_pos h1]
    cases getR R o.id with
    | none => exact hu
    | some x => exact hu.revoke _
  rw [if_neg h1]
  by_cases h2 : o.kind % 8 = 2
  · rw [if_pos h2]
    cases getR R o.id with
    | none => exact hu
    | some x => exact hu.renew _
  rw [if_neg h2]
  by_cases h3 : o.kind % 8 = 3 ∨ o.kind % 8 = 4
  · rw [if_pos h3]
    cases getR R o.id with
    | none => exact hu
    | some x => exact h.attach _ _ ho.2
  rw [if_neg h3]
  by_cases h5 : o.kind % 8 = 5
  · rw [if_pos h5]; exact hu.detach _
  rw [if_neg h5]
  exact hu.tick _
theorem ROk.steps {n : Nat} {R : List LV} (h : ROk n R) {l : List LOp} (hl : ∀ o ∈ l, OpIn o) : ROk (n + l.length) (stepsR R l) := by
  induction l generalizing n R with
  | nil => exact h
  | cons o l ih =>
    have := ih (h.step (hl o (List.mem_cons_self ..))) fun o' ho' => hl o' (List.mem_cons_of_mem _ ho')
    unfold stepsR at *
    rw [List.foldl_cons, List.length_cons, show n + (l.length + 1) = n + 1 + l.length from by omega]
    exact this

/-! How a lease is found behind each call. -/
theorem getR_ins {R : List LV} {x : LV} (hn : ∀ y ∈ R, y.id ≠ x.id) (i : Int) : getR (insBy LV.id x R) i = if i = x.id then some x else getR R i := by
  unfold getR
  induction R with
  | nil => by_cases h : i = x.id
           · simp [insBy, h]
           · have h' : ¬ x.id = i := fun e => h e.symm
             simp [insBy, h, h']
  | cons y R ih =>
    have hx := hn y (List.mem_cons_self ..)
    have ih := ih fun z hz => hn z (List.mem_cons_of_mem _ hz)
    unfold insBy
    split
    · rw [List.find?_cons]
      by_cases h : i = x.id
      · subst h; simp
      · have h3 : (x.id == i) = false := by simpa using fun e => h e.symm
        rw [h3, if_neg h]
    · rw [List.find?_cons, List.find?_cons]
      by_cases h2 : y.id = i
      · subst h2; simp [hx]
      · have h3 : (y.id == i) = false := by simpa using h2
        rw [h3]; exact ih
theorem getR_map {R : List LV} (f : LV → LV) (hf : ∀ x, (f x).id = x.id) (i : Int) : getR (R.map f) i = (getR R i).map f := by
  unfold getR
  induction R with
  | nil => rfl
  | cons x R ih =>
    rw [List.map_cons, List.find?_cons, List.find?_cons, hf]
    cases x.id == i with
    | true => rfl
    | false => exact ih
theorem getR_del {R : List LV} (id i : Int) : getR (revokeR R id) i = if i = id then none else getR R i := by
  unfold getR revokeR
  induction R with
  | nil => simp
  | cons x R ih =>
    by_cases h : x.id = id
    · rw [List.filter_cons_of_neg (by simp [h]), ih]
      split
      · rfl
      · rw [List.find?_cons_of_neg (by simp; omega)]
    · rw [List.filter_cons_of_pos (by simp [h]), List.find?_cons, List.find?_cons]
      by_cases h2 : x.id = i
      · subst h2; simp [h]
      · have h3 : (x.id == i) = false := by simpa using h2
        rw [h3]; exact ih
theorem getR_renew {R : List LV} (id i : Int) : getR (renewR R id) i = (getR R i).map fun x => if x.id = id then { x with left := x.ticks } else x :=
  getR_map _ (fun x => by split <;> rfl) i
theorem getR_detach {R : List LV} (key : ByteArray) (i : Int) : getR (detachR R key) i = (getR R i).map fun x => { x with keys := delK key x.keys } :=
  getR_map (fun x => { x with keys := delK key x.keys }) (fun _ => rfl) i
theorem getR_attach {R : List LV} (id : Int) (key : ByteArray) (i : Int) : ∃ f : LV → List ByteArray, getR (attachR R id key) i = (getR R i).map fun x => { x with keys := f x } := by
  refine ⟨fun x => if x.id = id then insK key (delK key x.keys) else delK key x.keys, ?_⟩
  unfold attachR
  rw [getR_map _ (fun x => by split <;> rfl) i, getR_detach, Option.map_map]
  congr 1
  funext x
  dsimp only [Function.comp]
  split <;> rfl
theorem getR_tick {R : List LV} (n i : Int) : getR (tickR R n) i = (getR R i).map fun x => if n < 1 then x else tick1 n x := by
  unfold tickR
  split
  · simp
  · exact getR_map (tick1 n) (fun _ => rfl) i

/-! Times. -/
def TimeI (R : List LV) (id since ticks : Int) : Prop :=
  (getR R id = none ∧ since = -1 ∧ ticks = 0) ∨ ∃ x, getR R id = some x ∧ 0 ≤ since ∧ ticks = x.ticks ∧ x.left = max (ticks - since) 0
/-- What the law notes of a lease behind a call. -/
def timesS (id : Int) (o : LOp) (e since ticks : Int) : Int × Int :=
  if o.kind % 8 = 0 then (if o.id = id ∧ e = 0 then (0, o.n) else (since, ticks))
  else if o.kind % 8 = 1 then (if o.id = id ∧ e = 0 then (-1, 0) else (since, ticks))
  else if o.kind % 8 = 2 then (if o.id = id ∧ e = 0 then (0, ticks) else (since, ticks))
  else if 5 < o.kind % 8 then (if 0 < o.n ∧ 0 ≤ since then (since + o.n, ticks) else (since, ticks))
  else (since, ticks)
theorem TimeI.nil (id : Int) : TimeI [] id (-1) 0 := .inl ⟨rfl, rfl, rfl⟩
theorem TimeI.step {n : Nat} {R : List LV} (h : ROk n R) {id since ticks : Int} (a : TimeI R id since ticks) (o : LOp) : TimeI (stepR R o).2 id (timesS id o (stepR R o).1.e since ticks).1 (timesS id o (stepR R o).1.e since ticks).2 := by
  unfold stepR timesS
  have hk0 : 0 ≤ o.kind % 8 := Int.emod_nonneg _ (by omega)
  have hk1 : o.kind % 8 < 8 := Int.emod_lt_of_pos _ (by omega)
  by_cases h0 : o.kind % 8 = 0
  · rw [if_pos h0, if_pos h0]
    dsimp only
    by_cases he : grantE R o.id o.n = 0
    · have hn : getR R o.id = none := by
        unfold grantE at he
        split at he
        · cases he
        · split at he
          · cases he
          · rename_i hx
            exact Option.not_isSome_iff_eq_none.1 hx
      have hp : 1 ≤ o.n := by
        unfold grantE at he
        split at he
        · cases he
        · omega
      rw [if_pos he]
      have hg := getR_ins (x := ⟨o.id, o.n, o.n, []⟩) (getR_none hn) id
      by_cases hi : o.id = id
      · subst hi
        rw [if_pos ⟨rfl, he⟩]
        refine .inr ⟨⟨o.id, o.n, o.n, []⟩, ?_, Int.le_refl _, rfl, by dsimp only; omega⟩
        unfold grantR
        rw [hg, if_pos rfl]
      · rw [if_neg (fun e => hi e.1)]
        dsimp only at hg ⊢
        rw [if_neg (fun e => hi e.symm)] at hg
        unfold TimeI grantR
        rw [hg]; exact a
    · rw [if_neg he, if_neg (fun e => he e.2)]; exact a
  rw [if_neg h0, if_neg h0]
  by_cases h1 : o.kind % 8 = 1
  · rw [if_pos h1, if_pos h1]
    cases hg : getR R o.id with
    | none => dsimp only; rw [if_neg (fun e => by cases e.2)]; exact a
    | some x =>
      dsimp only
      unfold TimeI
      rw [getR_del]
      by_cases hi : o.id = id
      · subst hi
        rw [if_pos rfl, if_pos ⟨rfl, rfl⟩]; exact .inl ⟨rfl, rfl, rfl⟩
      · rw [if_neg (fun e => hi e.symm), if_neg (fun e => hi e.1)]; exact a
  rw [if_neg h1, if_neg h1]
  by_cases h2 : o.kind % 8 = 2
  · rw [if_pos h2, if_pos h2]
    cases hg : getR R o.id with
    | none => dsimp only; rw [if_neg (fun e => by cases e.2)]; exact a
    | some x =>
      dsimp only
      unfold TimeI
      rw [getR_renew]
      by_cases hi : o.id = id
      · subst hi
        rw [if_pos ⟨rfl, rfl⟩, hg]
        obtain ⟨hm, hid⟩ := getR_mem hg
        have hnum := h.num x hm
        rcases a with ⟨a1, _⟩ | ⟨y, a1, a2, a3, a4⟩
        · rw [hg] at a1; cases a1
        · rw [hg] at a1; cases a1
          refine .inr ⟨{ x with left := x.ticks }, ?_, Int.le_refl _, a3, by dsimp only; omega⟩
          rw [Option.map_some, if_pos hid]
      · rw [if_neg (fun e => hi e.1)]
        rcases a with ⟨a1, a2⟩ | ⟨y, a1, a2⟩
        · exact .inl ⟨by rw [a1]; rfl, a2⟩
        · have hy := (getR_mem a1).2
          exact .inr ⟨y, by rw [a1, Option.map_some, if_neg (by omega)], a2⟩
  rw [if_neg h2, if_neg h2]
  have hkeys : ∀ (R' : List LV) (f : LV → List ByteArray), getR R' id = (getR R id).map (fun x => { x with keys := f x }) → TimeI R' id since ticks := by
    intro R' f hg
    rcases a with ⟨a1, a2⟩ | ⟨y, a1, a2⟩
    · exact .inl ⟨by rw [hg, a1]; rfl, a2⟩
    · exact .inr ⟨{ y with keys := f y }, by rw [hg, a1]; rfl, a2⟩
  by_cases h3 : o.kind % 8 = 3 ∨ o.kind % 8 = 4
  · rw [if_pos h3, if_neg (by omega)]
    cases hg : getR R o.id with
    | none => exact a
    | some x =>
      obtain ⟨f, hf⟩ := getR_attach (R := R) o.id o.key id
      exact hkeys _ f hf
  rw [if_neg h3]
  by_cases h5 : o.kind % 8 = 5
  · rw [if_pos h5, if_neg (by omega)]
    exact hkeys _ (fun x => delK o.key x.keys) (getR_detach _ _)
  rw [if_neg h5, if_pos (by omega)]
  dsimp only
  unfold TimeI
  rw [getR_tick]
  rcases a with ⟨a1, a2, a3⟩ | ⟨y, a1, a2, a3, a4⟩
  · rw [if_neg (by omega)]
    exact .inl ⟨by rw [a1]; rfl, a2, a3⟩
  · by_cases hp : 0 < o.n
    · rw [if_pos ⟨hp, a2⟩, a1, Option.map_some, if_neg (by omega)]
      refine .inr ⟨_, rfl, by dsimp only; omega, a3, ?_⟩
      unfold tick1
      dsimp only
      split <;> omega
    · rw [if_neg (fun e => hp e.1), a1, Option.map_some, if_pos (by omega)]
      exact .inr ⟨y, rfl, a2, a3, a4⟩
theorem timesS_le {id : Int} {o : LOp} {e since ticks : Int} {b : Int} (hb : since ≤ b) (hb0 : 0 ≤ b) (hn : o.n ≤ 1099511627776 ∨ o.kind % 8 ≤ 5) : (timesS id o e since ticks).1 ≤ b + 1099511627776 := by
  unfold timesS
  repeat' split
  all_goals (dsimp only; omega)
theorem TimeI.lo {R : List LV} {id since ticks : Int} (a : TimeI R id since ticks) : -1 ≤ since := by
  rcases a with ⟨_, h, _⟩ | ⟨_, _, h, _⟩ <;> omega
theorem TimeI.ticks {n : Nat} {R : List LV} (h : ROk n R) {id since ticks : Int} (a : TimeI R id since ticks) : 0 ≤ ticks ∧ ticks ≤ maxT := by
  rcases a with ⟨_, _, h1⟩ | ⟨x, hx, _, h1, _⟩
  · subst h1; unfold maxT; omega
  · have := h.num x (getR_mem hx).1
    omega
theorem mem_overR {n : Nat} {R : List LV} (h : ROk n R) (id : Int) : id ∈ overR R ↔ ∃ x, getR R id = some x ∧ x.left = 0 := by
  unfold overR
  rw [List.mem_map]
  constructor
  · rintro ⟨x, hx, rfl⟩
    obtain ⟨h1, h2⟩ := List.mem_filter.1 hx
    exact ⟨x, h.get h1, by simpa using h2⟩
  · rintro ⟨x, hx, h1⟩
    obtain ⟨h2, h3⟩ := getR_mem hx
    exact ⟨x, List.mem_filter.2 ⟨h2, by simpa using h1⟩, h3⟩
theorem mem_toldR {n : Nat} {R : List LV} (h : ROk n R) (id k : Int) : id ∈ toldR R k ↔ 1 ≤ k ∧ ∃ x, getR R id = some x ∧ 0 < x.left ∧ x.left ≤ k := by
  unfold toldR
  split
  · simp; omega
  · rw [List.mem_map]
    constructor
    · rintro ⟨x, hx, rfl⟩
      obtain ⟨h1, h2⟩ := List.mem_filter.1 hx
      exact ⟨by omega, x, h.get h1, by simpa using h2⟩
    · rintro ⟨_, x, hx, h1, h4⟩
      obtain ⟨h2, h3⟩ := getR_mem hx
      exact ⟨x, List.mem_filter.2 ⟨h2, by simp; omega⟩, h3⟩
theorem toldR_rise {n : Nat} {R : List LV} (h : ROk n R) (k : Int) : (toldR R k).Pairwise (· < ·) := by
  unfold toldR
  split
  · exact .nil
  · rw [List.pairwise_map]; exact h.rise.filter _
theorem overR_rise {n : Nat} {R : List LV} (h : ROk n R) : (overR R).Pairwise (· < ·) := by
  unfold overR
  rw [List.pairwise_map]; exact h.rise.filter _
/-- How often a number stands in a list. -/
def cntI (l : List Int) (id : Int) : Nat := (l.filter fun x => x == id).length
theorem cnt_rise {l : List Int} (h : l.Pairwise (· < ·)) (id : Int) : cntI l id = if id ∈ l then 1 else 0 := by
  unfold cntI
  induction l with
  | nil => rfl
  | cons x l ih =>
    obtain ⟨h1, h2⟩ := List.pairwise_cons.1 h
    by_cases e : x = id
    · subst e
      have hn : x ∉ l := fun hx => Int.lt_irrefl _ (h1 x hx)
      rw [List.filter_cons_of_pos (by simp), List.length_cons, ih h2, if_neg hn, if_pos (List.mem_cons_self ..)]
    · rw [List.filter_cons_of_neg (by simpa using e), ih h2]
      have e' : ¬ id = x := fun h => e h.symm
      simp [e']
/-- The law of times, of one call. -/
theorem times_law {n : Nat} {R : List LV} (h : ROk n R) {id since ticks : Int} (a : TimeI R id since ticks) (o : LOp) (ho : OpIn o) {s' t' : Int} (hs : timesS id o (stepR R o).1.e since ticks = (s', t')) :
    (id ∈ overR (stepR R o).2 ↔ (0 ≤ s' ∧ t' ≤ s')) ∧ ((getR (stepR R o).2 id).isSome = true ↔ 0 ≤ s') ∧ (∀ x, getR (stepR R o).2 id = some x → x.left = max (t' - s') 0) ∧
    cntI (stepR R o).1.told id ≤ 1 ∧ (5 < o.kind % 8 → (cntI (stepR R o).1.told id = 1 ↔ ((0 ≤ s' ∧ t' ≤ s') ∧ ¬ ticks ≤ since))) := by
  have b := a.step h o
  have hR := h.step ho
  rw [hs] at b
  dsimp only at b
  refine ⟨?_, ?_, ?_, ?_, ?_⟩
  · rw [mem_overR hR]
    rcases b with ⟨b1, b2, b3⟩ | ⟨y, b1, b2, b3, b4⟩
    · rw [b1]; constructor
      · rintro ⟨x, hx, _⟩; cases hx
      · omega
    · rw [b1]; constructor
      · rintro ⟨x, hx, h1⟩; cases hx; omega
      · rintro ⟨h1, h2⟩; exact ⟨y, rfl, by omega⟩
  · rcases b with ⟨b1, b2, b3⟩ | ⟨y, b1, b2, b3, b4⟩
    · rw [b1]; simp; omega
    · rw [b1]; simp; omega
  · intro x hx
    rcases b with ⟨b1, b2, b3⟩ | ⟨y, b1, b2, b3, b4⟩
    · rw [hx] at b1; cases b1
    · rw [hx] at b1; cases b1; exact b4
  · unfold stepR
    repeat' split
    all_goals (dsimp only; first | exact Nat.zero_le _ | (rw [cnt_rise (toldR_rise h _)]; split <;> omega))
  · intro h5
    have e : (stepR R o).1.told = toldR R o.n := by
      unfold stepR
      rw [if_neg (by omega), if_neg (by omega), if_neg (by omega), if_neg (by omega), if_neg (by omega)]
    have e2 : timesS id o (stepR R o).1.e since ticks = if 0 < o.n ∧ 0 ≤ since then (since + o.n, ticks) else (since, ticks) := by
      unfold timesS
      rw [if_neg (by omega), if_neg (by omega), if_neg (by omega), if_pos h5]
    rw [e, cnt_rise (toldR_rise h _)]
    have hmem := mem_toldR h id o.n
    rw [hs] at e2
    have key : id ∈ toldR R o.n ↔ ((0 ≤ s' ∧ t' ≤ s') ∧ ¬ ticks ≤ since) := by
      rw [hmem]
      rcases a with ⟨a1, a2, a3⟩ | ⟨y, a1, a2, a3, a4⟩
      · rw [if_neg (by omega)] at e2
        cases e2
        rw [a1]
        constructor
        · rintro ⟨_, x, hx, _⟩; cases hx
        · omega
      · by_cases hp : 0 < o.n
        · rw [if_pos ⟨hp, a2⟩] at e2
          cases e2
          rw [a1]
          constructor
          · rintro ⟨h1, x, hx, h2⟩; cases hx; omega
          · rintro ⟨h1, h2⟩; exact ⟨by omega, y, rfl, by omega⟩
        · rw [if_neg (fun e => hp e.1)] at e2
          cases e2
          constructor
          · rintro ⟨h1, _⟩; omega
          · omega
    rw [← key]
    split <;> simp_all

/-! Ticks in two parts. -/
theorem tick_parts {n : Nat} {R : List LV} (h : ROk n R) {a b : Int} (ha : 0 ≤ a) (hb : 0 ≤ b) : tickR (tickR R a) b = tickR R (a + b) := by
  unfold tickR
  by_cases h1 : a < 1
  · rw [if_pos h1, show a + b = b from by omega]
  · rw [if_neg h1, if_neg (by omega : ¬ a + b < 1)]
    by_cases h2 : b < 1
    · rw [if_pos h2, show a + b = a from by omega]
    · rw [if_neg h2, List.map_map]
      refine List.map_congr_left fun x hx => ?_
      have := h.num x hx
      unfold tick1
      dsimp only [Function.comp]
      congr 1
      repeat' split
      all_goals omega
theorem told_parts {n : Nat} {R : List LV} (h : ROk n R) {a b : Int} (ha : 0 ≤ a) (hb : 0 ≤ b) :
    (∀ i, i ∈ toldR R (a + b) ↔ i ∈ toldR R a ∨ i ∈ toldR (tickR R a) b) ∧ ∀ i, i ∈ toldR R a → i ∉ toldR (tickR R a) b := by
  have hg := fun i => getR_tick (R := R) a i
  have ht := h.tick a
  refine ⟨fun i => ?_, fun i h1 h2 => ?_⟩
  · rw [mem_toldR h, mem_toldR h, mem_toldR ht, hg]
    cases getR R i with
    | none => simp
    | some x =>
      simp only [Option.map_some, Option.some.injEq, exists_eq_left']
      by_cases h1 : a < 1
      · rw [if_pos h1]; omega
      · rw [if_neg h1]
        unfold tick1
        dsimp only
        split <;> omega
  · rw [mem_toldR h] at h1
    rw [mem_toldR ht, hg] at h2
    obtain ⟨h1, x, hx, h3⟩ := h1
    rw [hx, Option.map_some, if_neg (by omega)] at h2
    obtain ⟨_, y, hy, h4⟩ := h2
    cases hy
    unfold tick1 at h4
    dsimp only at h4
    rw [if_neg (by omega)] at h4
    omega
theorem rise_nodup {l : List Int} (h : l.Pairwise (· < ·)) : l.Nodup := h.imp fun hab => Int.ne_of_lt hab
theorem parts_length {n : Nat} {R : List LV} (h : ROk n R) {a b : Int} (ha : 0 ≤ a) (hb : 0 ≤ b) : (toldR R a).length + (toldR (tickR R a) b).length = (toldR R (a + b)).length := by
  obtain ⟨h1, h2⟩ := told_parts h ha hb
  have hp : (toldR R a ++ toldR (tickR R a) b).Perm (toldR R (a + b)) := by
    refine (List.perm_ext_iff_of_nodup ?_ (rise_nodup (toldR_rise h _))).2 fun i => by rw [List.mem_append, h1]
    rw [List.nodup_append]
    exact ⟨rise_nodup (toldR_rise h _), rise_nodup (toldR_rise (h.tick a) _), fun x hx y hy e => h2 x hx (e ▸ hy)⟩
  have := hp.length_eq
  simpa using this
theorem parts_count {n : Nat} {R : List LV} (h : ROk n R) {a b : Int} (ha : 0 ≤ a) (hb : 0 ≤ b) {i : Int} (hi : i ∈ toldR R (a + b)) : cntI (toldR R a) i + cntI (toldR (tickR R a) b) i = 1 := by
  obtain ⟨h1, h2⟩ := told_parts h ha hb
  rw [cnt_rise (toldR_rise h _), cnt_rise (toldR_rise (h.tick a) _)]
  rcases (h1 i).1 hi with h3 | h3
  · rw [if_pos h3, if_neg (h2 i h3)]
  · rw [if_pos h3, if_neg (fun h4 => h2 i h4 h3)]
end Go.Proofs.Ytlomeohcgjgpjaa
