/- The table of leases as the document tells it: a list of leases by rising numbers, and its calls. Plain facts; no program. -/
import Derived.Test.YtlomeohcgjgpjaaKeys
namespace Go.Proofs.Ytlomeohcgjgpjaa
open Go

theorem nodup_le {α : Type} [DecidableEq α] : ∀ (a b : List α), a.Nodup → (∀ x ∈ a, x ∈ b) → a.length ≤ b.length
  | [], _, _, _ => by simp
  | x :: a, b, hn, hs => by
    have hx := hs x (by simp)
    obtain ⟨h1, h2⟩ := List.nodup_cons.1 hn
    have h3 := nodup_le a (b.erase x) h2 fun y hy => (List.mem_erase_of_ne (fun e => h1 (by rw [← e]; exact hy))).2 (hs y (by simp [hy]))
    have h4 := List.length_erase_of_mem hx
    have h5 : 0 < b.length := List.length_pos_of_mem hx
    simp only [List.length_cons]
    omega

structure LV where
  id : Int
  ticks : Int
  left : Int
  keys : List ByteArray

def maxT : Int := 1073741824
def maxI : Int := 9223372036854775807

/-- x laid ahead of the first one with a greater number. -/
def insBy {α : Type} (f : α → Int) (x : α) : List α → List α
  | [] => [x]
  | y :: l => if f x < f y then x :: y :: l else y :: insBy f x l
section
variable {α β : Type} {f : α → Int}
theorem insBy_mem {x y : α} {l : List α} : y ∈ insBy f x l ↔ y = x ∨ y ∈ l := by
  induction l with
  | nil => simp [insBy]
  | cons z l ih =>
    unfold insBy
    split
    · simp
    · simp [ih, or_left_comm]
theorem insBy_length (x : α) (l : List α) : (insBy f x l).length = l.length + 1 := by
  induction l with
  | nil => rfl
  | cons z l ih => unfold insBy; split <;> simp [ih]
theorem insBy_sorted {x : α} {l : List α} (h : l.Pairwise fun a b => f a < f b) (hn : ∀ y ∈ l, f y ≠ f x) : (insBy f x l).Pairwise fun a b => f a < f b := by
  induction l with
  | nil => simp [insBy]
  | cons z l ih =>
    obtain ⟨h1, h2⟩ := List.pairwise_cons.1 h
    unfold insBy
    split
    · rename_i hlt
      refine List.pairwise_cons.2 ⟨fun y hy => ?_, h⟩
      rcases List.mem_cons.1 hy with rfl | hy
      · exact hlt
      · exact Int.lt_trans hlt (h1 y hy)
    · rename_i hlt
      have hne := hn z (List.mem_cons_self ..)
      refine List.pairwise_cons.2 ⟨fun y hy => ?_, ih h2 fun y hy => hn y (List.mem_cons_of_mem _ hy)⟩
      rcases insBy_mem.1 hy with rfl | hy
      · omega
      · exact h1 y hy
theorem insBy_pw {S : α → α → Prop} {x : α} {l : List α} (h : l.Pairwise S) (hn : ∀ y ∈ l, S x y ∧ S y x) : (insBy f x l).Pairwise S := by
  induction l with
  | nil => simp [insBy]
  | cons z l ih =>
    obtain ⟨h1, h2⟩ := List.pairwise_cons.1 h
    unfold insBy
    split
    · exact List.pairwise_cons.2 ⟨fun y hy => (hn y hy).1, h⟩
    · refine List.pairwise_cons.2 ⟨fun y hy => ?_, ih h2 fun y hy => hn y (List.mem_cons_of_mem _ hy)⟩
      rcases insBy_mem.1 hy with rfl | hy
      · exact (hn z (List.mem_cons_self ..)).2
      · exact h1 y hy
theorem insBy_map {g : α → β} {k : β → Int} (hk : ∀ y, k (g y) = f y) (x : α) (l : List α) : (insBy f x l).map g = insBy k (g x) (l.map g) := by
  induction l with
  | nil => rfl
  | cons z l ih =>
    simp only [insBy, List.map_cons, hk]
    split
    · simp
    · simp [ih]
end

/-- A key laid into rising keys. -/
def insK (key : ByteArray) : List ByteArray → List ByteArray
  | [] => [key]
  | k :: l => if klt key k then key :: k :: l else k :: insK key l
theorem insK_mem {key k : ByteArray} {l : List ByteArray} : k ∈ insK key l ↔ k = key ∨ k ∈ l := by
  induction l with
  | nil => simp [insK]
  | cons z l ih =>
    unfold insK
    split
    · simp
    · simp [ih, or_left_comm]
theorem insK_length (key : ByteArray) (l : List ByteArray) : (insK key l).length = l.length + 1 := by
  induction l with
  | nil => rfl
  | cons z l ih => unfold insK; split <;> simp [ih]
abbrev KRise (l : List ByteArray) : Prop := l.Pairwise fun a b => klt a b = true
theorem insK_rise {key : ByteArray} {l : List ByteArray} (h : KRise l) (hn : key ∉ l) : KRise (insK key l) := by
  induction l with
  | nil => simp [insK, KRise]
  | cons z l ih =>
    obtain ⟨h1, h2⟩ := List.pairwise_cons.1 h
    unfold insK
    split
    · rename_i hlt
      refine List.pairwise_cons.2 ⟨fun y hy => ?_, h⟩
      rcases List.mem_cons.1 hy with rfl | hy
      · exact hlt
      · exact klt_trans hlt (h1 y hy)
    · rename_i hlt
      refine List.pairwise_cons.2 ⟨fun y hy => ?_, ih h2 fun e => hn (List.mem_cons_of_mem _ e)⟩
      rcases insK_mem.1 hy with rfl | hy
      · rcases klt_tri z y with h3 | h3 | h3
        · exact h3
        · exact absurd (by rw [← h3]; exact List.mem_cons_self ..) hn
        · exact absurd h3 hlt
      · exact h1 y hy
/-- The keys without one. -/
def delK (key : ByteArray) (l : List ByteArray) : List ByteArray := l.filter fun k => !keq k key
theorem delK_mem {key k : ByteArray} {l : List ByteArray} : k ∈ delK key l ↔ k ∈ l ∧ k ≠ key := by
  unfold delK
  rw [List.mem_filter]
  have : (!keq k key) = true ↔ k ≠ key := by
    rw [Bool.not_eq_true', Bool.eq_false_iff]
    exact not_congr keq_iff
  rw [this]
theorem delK_rise {key : ByteArray} {l : List ByteArray} (h : KRise l) : KRise (delK key l) := h.filter _
theorem delK_none {key : ByteArray} {l : List ByteArray} (h : key ∉ l) : delK key l = l := by
  unfold delK
  rw [List.filter_eq_self]
  intro a ha
  rw [Bool.not_eq_true', Bool.eq_false_iff]
  exact fun e => h (keq_iff.1 e ▸ ha)

/-! The document's calls. -/
def getR (R : List LV) (id : Int) : Option LV := R.find? fun x => x.id == id
def grantE (R : List LV) (id ticks : Int) : Int := if id < 1 ∨ ticks < 1 ∨ maxT < ticks then 1 else if (getR R id).isSome then 34 else 0
def grantR (R : List LV) (id ticks : Int) : List LV := insBy LV.id ⟨id, ticks, ticks, []⟩ R
def revokeR (R : List LV) (id : Int) : List LV := R.filter fun x => !(x.id == id)
def renewR (R : List LV) (id : Int) : List LV := R.map fun x => if x.id = id then { x with left := x.ticks } else x
def hasKey (key : ByteArray) (x : LV) : Bool := x.keys.any fun k => keq k key
def ofR (R : List LV) (key : ByteArray) : Int := match R.find? (hasKey key) with
  | some x => x.id
  | none => 0
def detachR (R : List LV) (key : ByteArray) : List LV := R.map fun x => { x with keys := delK key x.keys }
def attachR (R : List LV) (id : Int) (key : ByteArray) : List LV := (detachR R key).map fun x => if x.id = id then { x with keys := insK key x.keys } else x
def tick1 (n : Int) (x : LV) : LV := { x with left := if n < x.left then x.left - n else 0 }
def tickR (R : List LV) (n : Int) : List LV := if n < 1 then R else R.map (tick1 n)
def toldR (R : List LV) (n : Int) : List Int := if n < 1 then [] else (R.filter fun x => decide (0 < x.left) && decide (x.left ≤ n)).map LV.id
def overR (R : List LV) : List Int := (R.filter fun x => x.left == 0).map LV.id

/-- What holds of every table behind at most n calls. -/
structure ROk (n : Nat) (R : List LV) : Prop where
  rise : R.Pairwise fun x y => x.id < y.id
  num : ∀ x ∈ R, 1 ≤ x.id ∧ x.id ≤ maxI ∧ 1 ≤ x.ticks ∧ x.ticks ≤ maxT ∧ 0 ≤ x.left ∧ x.left ≤ x.ticks
  keys : ∀ x ∈ R, KRise x.keys
  klen : ∀ x ∈ R, x.keys.length ≤ n ∧ ∀ k ∈ x.keys, k.size ≤ maxLen
  apart : R.Pairwise fun x y => ∀ k ∈ x.keys, k ∉ y.keys
  len : R.length ≤ n
theorem ROk.nil : ROk 0 [] := ⟨.nil, by simp, by simp, by simp, .nil, by simp⟩
theorem ROk.up {n m : Nat} {R : List LV} (h : ROk n R) (hm : n ≤ m) : ROk m R :=
  ⟨h.rise, h.num, h.keys, fun x hx => ⟨Nat.le_trans (h.klen x hx).1 hm, (h.klen x hx).2⟩, h.apart, Nat.le_trans h.len hm⟩
theorem find_uniq {α : Type} {f : α → Int} {l : List α} (h : l.Pairwise fun a b => f a < f b) {x : α} (hx : x ∈ l) : l.find? (fun y => f y == f x) = some x := by
  induction l with
  | nil => simp at hx
  | cons z l ih =>
    obtain ⟨h1, h2⟩ := List.pairwise_cons.1 h
    rcases List.mem_cons.1 hx with rfl | hx
    · simp
    · have := h1 x hx
      rw [List.find?_cons_of_neg (by simp; omega)]
      exact ih h2 hx
theorem getR_mem {R : List LV} {id : Int} {x : LV} (h : getR R id = some x) : x ∈ R ∧ x.id = id := by
  unfold getR at h
  exact ⟨List.mem_of_find?_eq_some h, by simpa using List.find?_some h⟩
theorem ROk.get {n : Nat} {R : List LV} (h : ROk n R) {x : LV} (hx : x ∈ R) : getR R x.id = some x := find_uniq h.rise hx
theorem getR_none {R : List LV} {id : Int} (h : getR R id = none) : ∀ x ∈ R, x.id ≠ id := by
  intro x hx e
  unfold getR at h
  rw [List.find?_eq_none] at h
  exact h x hx (by simp [e])
/-- A key's lease. -/
theorem ROk.of {n : Nat} {R : List LV} (h : ROk n R) {x : LV} (hx : x ∈ R) {k : ByteArray} (hk : k ∈ x.keys) : ofR R k = x.id := by
  unfold ofR
  have ha := h.apart
  clear h
  induction R with
  | nil => simp at hx
  | cons z R ih =>
    obtain ⟨h1, h2⟩ := List.pairwise_cons.1 ha
    rcases List.mem_cons.1 hx with rfl | hx
    · rw [List.find?_cons_of_pos (by unfold hasKey; rw [List.any_eq_true]; exact ⟨k, hk, keq_iff.2 rfl⟩)]
    · rw [List.find?_cons_of_neg]
      · exact ih hx h2
      · unfold hasKey
        rw [List.any_eq_true]
        rintro ⟨j, hj, e⟩
        obtain rfl := keq_iff.1 e
        exact h1 x hx _ hj hk
theorem ofR_none {R : List LV} {k : ByteArray} (h : ∀ x ∈ R, k ∉ x.keys) : ofR R k = 0 := by
  unfold ofR
  rw [List.find?_eq_none.2]
  intro x hx hh
  unfold hasKey at hh
  rw [List.any_eq_true] at hh
  obtain ⟨j, hj, e⟩ := hh
  obtain rfl := keq_iff.1 e
  exact h x hx hj
theorem ofR_some {R : List LV} {k : ByteArray} (h : ofR R k ≠ 0) : ∃ x ∈ R, k ∈ x.keys ∧ ofR R k = x.id := by
  unfold ofR at h ⊢
  cases hf : R.find? (hasKey k) with
  | none => rw [hf] at h; exact absurd rfl h
  | some x =>
    refine ⟨x, List.mem_of_find?_eq_some hf, ?_, rfl⟩
    have := List.find?_some hf
    unfold hasKey at this
    rw [List.any_eq_true] at this
    obtain ⟨j, hj, e⟩ := this
    exact keq_iff.1 e ▸ hj
theorem of_zero {n : Nat} {R : List LV} (h : ROk n R) {k : ByteArray} (h0 : ofR R k = 0) : ∀ x ∈ R, k ∉ x.keys := by
  intro x hx hk
  have := h.of hx hk
  have := (h.num x hx).1
  omega

theorem ROk.grant {n : Nat} {R : List LV} (h : ROk n R) {id ticks : Int} (he : grantE R id ticks = 0) (hi : id ≤ maxI) : ROk (n + 1) (grantR R id ticks) := by
  unfold grantE at he
  by_cases h1 : id < 1 ∨ ticks < 1 ∨ maxT < ticks
  · rw [if_pos h1] at he; cases he
  · rw [if_neg h1] at he
    by_cases h2 : (getR R id).isSome = true
    · rw [if_pos h2] at he; cases he
    · have h2' : getR R id = none := by simpa using h2
      have hn := getR_none h2'
      unfold grantR
      refine ⟨insBy_sorted h.rise hn, ?_, ?_, ?_, insBy_pw h.apart (by simp), by rw [insBy_length]; have := h.len; omega⟩
      · intro x hx
        rcases insBy_mem.1 hx with rfl | hx
        · dsimp only; omega
        · exact h.num x hx
      · intro x hx
        rcases insBy_mem.1 hx with rfl | hx
        · exact .nil
        · exact h.keys x hx
      · intro x hx
        rcases insBy_mem.1 hx with rfl | hx
        · simp
        · exact ⟨Nat.le_succ_of_le (h.klen x hx).1, (h.klen x hx).2⟩
theorem ROk.revoke {n : Nat} {R : List LV} (h : ROk n R) (id : Int) : ROk n (revokeR R id) := by
  have hs : ∀ x ∈ revokeR R id, x ∈ R := fun x hx => (List.mem_filter.1 hx).1
  exact ⟨h.rise.filter _, fun x hx => h.num x (hs x hx), fun x hx => h.keys x (hs x hx), fun x hx => h.klen x (hs x hx), h.apart.filter _, Nat.le_trans (List.length_filter_le _ _) h.len⟩
theorem ROk.map {n m : Nat} {R : List LV} (h : ROk n R) (hm : n ≤ m) (f : LV → LV) (hf : ∀ x ∈ R, (f x).id = x.id ∧ (f x).ticks = x.ticks ∧ 0 ≤ (f x).left ∧ (f x).left ≤ x.ticks ∧ KRise (f x).keys ∧ (f x).keys.length ≤ m ∧ ∀ k ∈ (f x).keys, k.size ≤ maxLen)
    (ha : (R.map f).Pairwise fun x y => ∀ k ∈ x.keys, k ∉ y.keys) : ROk m (R.map f) := by
  refine ⟨?_, ?_, ?_, ?_, ha, by rw [List.length_map]; exact Nat.le_trans h.len hm⟩
  · rw [List.pairwise_map]
    refine h.rise.imp_of_mem fun hx hy hlt => ?_
    rw [(hf _ hx).1, (hf _ hy).1]; exact hlt
  all_goals
    intro y hy
    obtain ⟨x, hx, rfl⟩ := List.mem_map.1 hy
    obtain ⟨h1, h2, h3, h4, h5, h6, h7⟩ := hf x hx
    have := h.num x hx
  · rw [h1, h2]; omega
  · exact h5
  · exact ⟨h6, h7⟩
theorem ROk.renew {n : Nat} {R : List LV} (h : ROk n R) (id : Int) : ROk n (renewR R id) := by
  refine h.map (Nat.le_refl _) _ (fun x hx => ?_) ?_
  · have h1 := h.num x hx
    have h2 := h.keys x hx
    have h3 := h.klen x hx
    split
    · dsimp only; exact ⟨rfl, rfl, by omega, by omega, h2, h3⟩
    · exact ⟨rfl, rfl, by omega, by omega, h2, h3⟩
  · rw [List.pairwise_map]
    refine h.apart.imp fun {a b} hab => ?_
    have e : ∀ x : LV, (if x.id = id then { x with left := x.ticks } else x).keys = x.keys := fun x => by split <;> rfl
    rw [e, e]; exact hab
theorem ROk.detach {n : Nat} {R : List LV} (h : ROk n R) (key : ByteArray) : ROk n (detachR R key) := by
  refine h.map (Nat.le_refl _) _ (fun x hx => ?_) ?_
  · have h1 := h.num x hx
    have h3 := h.klen x hx
    exact ⟨rfl, rfl, by dsimp only; omega, by dsimp only; omega, delK_rise (h.keys x hx), Nat.le_trans (List.length_filter_le _ _) h3.1, fun k hk => h3.2 k (delK_mem.1 hk).1⟩
  · rw [List.pairwise_map]
    exact h.apart.imp fun {a b} hab k hk hk' => hab k (delK_mem.1 hk).1 (delK_mem.1 hk').1
theorem detachR_not {R : List LV} {key : ByteArray} : ∀ x ∈ detachR R key, key ∉ x.keys := by
  intro y hy
  obtain ⟨x, _, rfl⟩ := List.mem_map.1 hy
  exact fun e => (delK_mem.1 e).2 rfl
theorem ROk.attach {n : Nat} {R : List LV} (h : ROk n R) (id : Int) (key : ByteArray) (hk : key.size ≤ maxLen) : ROk (n + 1) (attachR R id key) := by
  have hd := h.detach key
  have hn := detachR_not (R := R) (key := key)
  unfold attachR
  generalize detachR R key = D at *
  refine hd.map (Nat.le_succ _) _ (fun x hx => ?_) ?_
  · have h1 := hd.num x hx
    have h2 := hd.keys x hx
    have h3 := hd.klen x hx
    split
    · dsimp only
      exact ⟨rfl, rfl, by omega, by omega, insK_rise h2 (hn x hx), by rw [insK_length]; omega, fun k hk' => by
        rcases insK_mem.1 hk' with rfl | hk'
        · exact hk
        · exact h3.2 k hk'⟩
    · exact ⟨rfl, rfl, by omega, by omega, h2, by omega, h3.2⟩
  · rw [List.pairwise_map]
    refine (hd.apart.and hd.rise).imp_of_mem fun {a b} ha hb hab k hk hk' => ?_
    have ma : k ∈ a.keys ∨ k = key ∧ a.id = id := by
      split at hk
      · rcases insK_mem.1 hk with e | e
        · exact .inr ⟨e, by assumption⟩
        · exact .inl e
      · exact .inl hk
    have mb : k ∈ b.keys ∨ k = key ∧ b.id = id := by
      split at hk'
      · rcases insK_mem.1 hk' with e | e
        · exact .inr ⟨e, by assumption⟩
        · exact .inl e
      · exact .inl hk'
    rcases ma with ma | ⟨ma, ma2⟩
    · rcases mb with mb | ⟨mb, mb2⟩
      · exact hab.1 k ma mb
      · exact hn a ha (mb ▸ ma)
    · rcases mb with mb | ⟨mb, mb2⟩
      · exact hn b hb (ma ▸ mb)
      · have := hab.2; omega
theorem ROk.tick {n : Nat} {R : List LV} (h : ROk n R) (k : Int) : ROk n (tickR R k) := by
  unfold tickR
  split
  · exact h
  · refine h.map (Nat.le_refl _) _ (fun x hx => ?_) ?_
    · have h1 := h.num x hx
      refine ⟨rfl, rfl, ?_, ?_, h.keys x hx, h.klen x hx⟩ <;> (unfold tick1; dsimp only; split <;> omega)
    · rw [List.pairwise_map]; exact h.apart
end Go.Proofs.Ytlomeohcgjgpjaa
