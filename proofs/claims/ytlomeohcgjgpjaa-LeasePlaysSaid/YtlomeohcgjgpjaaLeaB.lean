/- The table of leases as the program keeps it (ends of leases in a heap), and that it is the document's. Plain facts; no program. -/
import Derived.Test.YtlomeohcgjgpjaaLeaA
namespace Go.Proofs.Ytlomeohcgjgpjaa
open Go

structure Ls where
  ticks : Int
  due : Int
  told : Bool
  keys : List ByteArray
structure LT where
  L : List (Int × Ls)
  now : Int
  q : List (Int × Int)
def viewL (now : Int) (x : Int × Ls) : LV := ⟨x.1, x.2.ticks, max (x.2.due - now) 0, x.2.keys⟩
def LT.view (T : LT) : List LV := T.L.map (viewL T.now)
def getL (L : List (Int × Ls)) (id : Int) : Option Ls := (L.find? fun x => x.1 == id).map (·.2)
def setL (L : List (Int × Ls)) (id : Int) (f : Ls → Ls) : List (Int × Ls) := L.map fun x => if x.1 = id then (x.1, f x.2) else x
def delL (L : List (Int × Ls)) (id : Int) : List (Int × Ls) := L.filter fun x => !(x.1 == id)

/-- No entry ends ahead of the one above it. -/
def HeapOk (q : List (Int × Int)) : Prop := ∀ i a b, 0 < i → q[(i - 1) / 2]? = some a → q[i]? = some b → a.1 ≤ b.1
theorem HeapOk.min {q : List (Int × Int)} (h : HeapOk q) {a : Int × Int} (ha : q[0]? = some a) : ∀ e ∈ q, a.1 ≤ e.1 := by
  have key : ∀ (n i : Nat) (b : Int × Int), i ≤ n → q[i]? = some b → a.1 ≤ b.1 := by
    intro n
    induction n with
    | zero => intro i b hi hb; obtain rfl : i = 0 := (by omega); rw [ha] at hb; cases hb; exact Int.le_refl _
    | succ n ih =>
      intro i b hi hb
      by_cases h0 : i = 0
      · subst h0; rw [ha] at hb; cases hb; exact Int.le_refl _
      · have hl : i < q.length := (List.getElem?_eq_some_iff.1 hb).1
        have hp : (i - 1) / 2 < q.length := by omega
        have h1 := h i q[(i - 1) / 2] b (by omega) (List.getElem?_eq_getElem hp) hb
        have h2 := ih ((i - 1) / 2) _ (by omega) (List.getElem?_eq_getElem hp)
        omega
  intro e he
  obtain ⟨i, hi⟩ := List.getElem?_of_mem he
  exact key i i e (Nat.le_refl _) hi

structure TOk (n : Nat) (T : LT) : Prop where
  ok : ROk n T.view
  told : ∀ x ∈ T.L, x.2.told = true → x.2.due ≤ T.now
  wait : ∀ x ∈ T.L, x.2.told = false → T.now < x.2.due ∧ (x.2.due, x.1) ∈ T.q
  now0 : 0 ≤ T.now
  now1 : T.now ≤ n * maxT
  heap : HeapOk T.q
  qlen : T.q.length ≤ n
  qnum : ∀ e ∈ T.q, 0 ≤ e.1 ∧ e.1 ≤ (n + 1) * maxT ∧ 1 ≤ e.2 ∧ e.2 ≤ maxI
  due0 : ∀ x ∈ T.L, 0 ≤ x.2.due
theorem TOk.nil : TOk 0 ⟨[], 0, []⟩ := ⟨ROk.nil, by simp, by simp, by simp, by simp, by intro i a b _ _ h; simp at h, by simp, by simp, by simp⟩
theorem TOk.rise {n : Nat} {T : LT} (h : TOk n T) : T.L.Pairwise fun a b => a.1 < b.1 := by
  have := h.ok.rise
  unfold LT.view at this
  rw [List.pairwise_map] at this
  exact this
theorem TOk.num {n : Nat} {T : LT} (h : TOk n T) : ∀ x ∈ T.L, 1 ≤ x.1 ∧ x.1 ≤ maxI ∧ 1 ≤ x.2.ticks ∧ x.2.ticks ≤ maxT ∧ x.2.due ≤ T.now + x.2.ticks := by
  intro x hx
  have := h.ok.num (viewL T.now x) (List.mem_map_of_mem hx)
  unfold viewL at this
  dsimp only at this
  omega
theorem TOk.up {n m : Nat} {T : LT} (h : TOk n T) (hm : n ≤ m) : TOk m T := by
  have e : (n : Int) * maxT ≤ m * maxT := by unfold maxT; omega
  exact ⟨h.ok.up hm, h.told, h.wait, h.now0, Int.le_trans h.now1 e, h.heap, Nat.le_trans h.qlen hm, fun x hx => by
    have := h.qnum x hx
    refine ⟨this.1, Int.le_trans this.2.1 ?_, this.2.2⟩
    unfold maxT; omega, h.due0⟩

theorem getL_view (L : List (Int × Ls)) (now : Int) (id : Int) : getR (L.map (viewL now)) id = (getL L id).map fun l => viewL now (id, l) := by
  unfold getR getL
  induction L with
  | nil => rfl
  | cons x L ih =>
    rw [List.map_cons, List.find?_cons, List.find?_cons]
    by_cases h : x.1 = id
    · subst h; simp [viewL]
    · have h1 : ((viewL now x).id == id) = false := by simpa [viewL] using h
      have h2 : (x.1 == id) = false := by simpa using h
      rw [h1, h2]; exact ih
theorem getL_mem {L : List (Int × Ls)} {id : Int} {l : Ls} (h : getL L id = some l) : (id, l) ∈ L := by
  unfold getL at h
  obtain ⟨x, hx, rfl⟩ := Option.map_eq_some_iff.1 h
  have h1 := List.find?_some hx
  have h2 := List.mem_of_find?_eq_some hx
  simp at h1
  rw [← h1]; exact h2
theorem getL_of {L : List (Int × Ls)} (h : L.Pairwise fun a b => a.1 < b.1) {x : Int × Ls} (hx : x ∈ L) : getL L x.1 = some x.2 := by
  unfold getL
  rw [find_uniq (f := Prod.fst) h hx]; rfl
theorem getL_none {L : List (Int × Ls)} {id : Int} (h : getL L id = none) : ∀ x ∈ L, x.1 ≠ id := by
  unfold getL at h
  rw [Option.map_eq_none_iff, List.find?_eq_none] at h
  exact fun x hx e => h x hx (by simp [e])
theorem uniqL {L : List (Int × Ls)} (h : L.Pairwise fun a b => a.1 < b.1) {x y : Int × Ls} (hx : x ∈ L) (hy : y ∈ L) (e : x.1 = y.1) : x = y := by
  have h1 := getL_of h hx
  have h2 := getL_of h hy
  rw [e, h2] at h1
  exact Prod.ext e (Option.some.inj h1).symm
theorem getL_set {L : List (Int × Ls)} (id i : Int) (f : Ls → Ls) : getL (setL L id f) i = (getL L i).map fun l => if i = id then f l else l := by
  unfold getL setL
  induction L with
  | nil => rfl
  | cons x L ih =>
    rw [List.map_cons, List.find?_cons, List.find?_cons]
    have e : (if x.1 = id then (x.1, f x.2) else x).1 = x.1 := by split <;> rfl
    rw [e]
    by_cases h : x.1 = i
    · subst h
      simp only [beq_self_eq_true, Option.map_some]
      split <;> rfl
    · have h2 : (x.1 == i) = false := by simpa using h
      rw [h2]; exact ih
theorem getL_del {L : List (Int × Ls)} (id i : Int) : getL (delL L id) i = if i = id then none else getL L i := by
  unfold getL delL
  induction L with
  | nil => simp
  | cons x L ih =>
    by_cases h : x.1 = id
    · rw [List.filter_cons_of_neg (by simp [h]), ih]
      split
      · rfl
      · rename_i hi
        rw [List.find?_cons_of_neg (by simp; omega)]
    · rw [List.filter_cons_of_pos (by simp [h]), List.find?_cons, List.find?_cons]
      by_cases h2 : x.1 = i
      · subst h2; simp [h]
      · have h3 : (x.1 == i) = false := by simpa using h2
        rw [h3]; exact ih
theorem getL_ins {L : List (Int × Ls)} {id : Int} {l : Ls} (hn : ∀ x ∈ L, x.1 ≠ id) (i : Int) : getL (insBy Prod.fst (id, l) L) i = if i = id then some l else getL L i := by
  unfold getL
  induction L with
  | nil => by_cases h : i = id
           · simp [insBy, h]
           · have h' : ¬ id = i := fun e => h e.symm
             simp [insBy, h, h']
  | cons x L ih =>
    have hx := hn x (List.mem_cons_self ..)
    have ih := ih fun y hy => hn y (List.mem_cons_of_mem _ hy)
    unfold insBy
    dsimp only
    split
    · rw [List.find?_cons]
      by_cases h : i = id
      · subst h; simp
      · have h3 : (id == i) = false := by simpa using fun e => h e.symm
        dsimp only
        rw [h3, if_neg h]
    · rw [List.find?_cons, List.find?_cons]
      by_cases h2 : x.1 = i
      · subst h2; simp [hx]
      · have h3 : (x.1 == i) = false := by simpa using h2
        rw [h3]; exact ih
/-- Who has a key in the program's table. -/
def ofL (L : List (Int × Ls)) (key : ByteArray) : Option Int := (L.find? fun x => x.2.keys.any fun k => keq k key).map (·.1)
theorem ofL_view (L : List (Int × Ls)) (now : Int) (key : ByteArray) : ofR (L.map (viewL now)) key = (ofL L key).getD 0 := by
  unfold ofR ofL
  induction L with
  | nil => rfl
  | cons x L ih =>
    rw [List.map_cons, List.find?_cons, List.find?_cons]
    have e : hasKey key (viewL now x) = x.2.keys.any fun k => keq k key := rfl
    rw [e]
    cases x.2.keys.any fun k => keq k key with
    | true => rfl
    | false => exact ih

def grantT (T : LT) (id ticks : Int) (q : List (Int × Int)) : LT := ⟨insBy Prod.fst (id, ⟨ticks, T.now + ticks, false, []⟩) T.L, T.now, q⟩
def renewT (T : LT) (id : Int) (q : List (Int × Int)) : LT := ⟨setL T.L id fun l => { l with due := T.now + l.ticks, told := false }, T.now, q⟩
def revokeT (T : LT) (id : Int) : LT := ⟨delL T.L id, T.now, T.q⟩
def detachT (T : LT) (id : Int) (key : ByteArray) : LT := ⟨setL T.L id fun l => { l with keys := delK key l.keys }, T.now, T.q⟩
def attachT (T : LT) (id : Int) (key : ByteArray) : LT := ⟨setL T.L id fun l => { l with keys := insK key l.keys }, T.now, T.q⟩

theorem TOk.grant {n : Nat} {T : LT} (h : TOk n T) {id ticks : Int} (he : grantE T.view id ticks = 0) (hi : id ≤ maxI) {q : List (Int × Int)} (hq : q.Perm (T.q ++ [(T.now + ticks, id)])) (hh : HeapOk q) :
    TOk (n + 1) (grantT T id ticks q) ∧ (grantT T id ticks q).view = grantR T.view id ticks := by
  have hrg : 1 ≤ id ∧ 1 ≤ ticks ∧ ticks ≤ maxT := by
    unfold grantE at he
    split at he
    · cases he
    · omega
  have h0 := h.now0
  have h1 := h.now1
  have hv : (grantT T id ticks q).view = grantR T.view id ticks := by
    unfold grantT LT.view grantR
    dsimp only
    rw [insBy_map (f := Prod.fst) (g := viewL T.now) (k := LV.id) (fun _ => rfl)]
    have e : viewL T.now (id, ⟨ticks, T.now + ticks, false, []⟩) = ⟨id, ticks, ticks, []⟩ := by
      unfold viewL
      dsimp only
      rw [show max (T.now + ticks - T.now) 0 = ticks from by omega]
    rw [e]
  refine ⟨⟨by rw [hv]; exact h.ok.grant he hi, ?_, ?_, h0, ?_, hh, by show q.length ≤ n + 1; rw [hq.length_eq]; simpa using h.qlen, ?_, ?_⟩, hv⟩
  · intro x hx ht
    rcases insBy_mem.1 hx with rfl | hx
    · cases ht
    · exact h.told x hx ht
  · intro x hx ht
    rcases insBy_mem.1 hx with rfl | hx
    · exact ⟨by show T.now < T.now + ticks; omega, hq.mem_iff.2 (by simp)⟩
    · exact ⟨(h.wait x hx ht).1, hq.mem_iff.2 (List.mem_append_left _ (h.wait x hx ht).2)⟩
  · show T.now ≤ _
    unfold maxT at *; omega
  · intro e he
    have hm := hq.mem_iff.1 he
    rcases List.mem_append.1 hm with hm | hm
    · have := h.qnum e hm
      unfold maxT at *; omega
    · rw [List.mem_singleton] at hm
      subst hm
      dsimp only
      unfold maxT at *; omega
  · intro x hx
    rcases insBy_mem.1 hx with rfl | hx
    · show 0 ≤ T.now + ticks; omega
    · exact h.due0 x hx
theorem setL_mem {L : List (Int × Ls)} {id : Int} {f : Ls → Ls} {y : Int × Ls} (h : y ∈ setL L id f) : ∃ x ∈ L, x.1 = y.1 ∧ y.2 = if y.1 = id then f x.2 else x.2 := by
  obtain ⟨x, hx, rfl⟩ := List.mem_map.1 h
  refine ⟨x, hx, ?_⟩
  split
  · exact ⟨rfl, rfl⟩
  · exact ⟨rfl, rfl⟩
theorem TOk.renew {n : Nat} {T : LT} (h : TOk n T) {id : Int} {l : Ls} (hl : getL T.L id = some l) {q : List (Int × Int)} (hq : q.Perm (T.q ++ [(T.now + l.ticks, id)])) (hh : HeapOk q) :
    TOk (n + 1) (renewT T id q) ∧ (renewT T id q).view = renewR T.view id := by
  have h0 := h.now0
  have h1 := h.now1
  have hm := getL_mem hl
  have hnum := h.num _ hm
  dsimp only at hnum
  have hv : (renewT T id q).view = renewR T.view id := by
    unfold renewT LT.view renewR setL
    dsimp only
    rw [List.map_map, List.map_map]
    refine List.map_congr_left fun x hx => ?_
    have := h.num x hx
    dsimp only [Function.comp]
    by_cases e : x.1 = id
    · rw [if_pos e, if_pos (show (viewL T.now x).id = id from e)]
      unfold viewL
      dsimp only
      rw [show max (T.now + x.2.ticks - T.now) 0 = x.2.ticks from by omega]
    · rw [if_neg e, if_neg (show ¬ (viewL T.now x).id = id from e)]
  refine ⟨⟨by rw [hv]; exact (h.ok.renew id).up (Nat.le_succ _), ?_, ?_, h0, ?_, hh, by show q.length ≤ n + 1; rw [hq.length_eq]; simpa using h.qlen, ?_, ?_⟩, hv⟩
  · intro y hy ht
    unfold renewT at hy
    dsimp only at hy
    obtain ⟨x, hx, e1, e2⟩ := setL_mem hy
    rw [e2] at ht ⊢
    by_cases e : y.1 = id
    · rw [if_pos e] at ht; cases ht
    · rw [if_neg e] at ht ⊢; exact h.told x hx ht
  · intro y hy ht
    unfold renewT at hy
    dsimp only at hy
    obtain ⟨x, hx, e1, e2⟩ := setL_mem hy
    rw [e2] at ht ⊢
    by_cases e : y.1 = id
    · have hxl := uniqL h.rise hx hm (by rw [e1, e])
      subst hxl
      rw [if_pos e]
      exact ⟨by show T.now < T.now + l.ticks; omega, hq.mem_iff.2 (by rw [e]; simp)⟩
    · rw [if_neg e] at ht ⊢
      rw [← e1]
      exact ⟨(h.wait x hx ht).1, hq.mem_iff.2 (List.mem_append_left _ (h.wait x hx ht).2)⟩
  · show T.now ≤ _
    unfold maxT at *; omega
  · intro e he
    have hm := hq.mem_iff.1 he
    rcases List.mem_append.1 hm with hm | hm
    · have := h.qnum e hm
      unfold maxT at *; omega
    · rw [List.mem_singleton] at hm
      subst hm
      dsimp only
      unfold maxT at *; omega
  · intro y hy
    unfold renewT at hy
    dsimp only at hy
    obtain ⟨x, hx, e1, e2⟩ := setL_mem hy
    have := h.num x hx
    have := h.due0 x hx
    rw [e2]
    split
    · show 0 ≤ T.now + x.2.ticks; omega
    · assumption
theorem TOk.revoke {n : Nat} {T : LT} (h : TOk n T) (id : Int) : TOk n (revokeT T id) ∧ (revokeT T id).view = revokeR T.view id := by
  have hv : (revokeT T id).view = revokeR T.view id := by
    unfold revokeT LT.view revokeR delL
    dsimp only
    rw [List.filter_map]
    rfl
  have hs : ∀ x ∈ delL T.L id, x ∈ T.L := fun x hx => (List.mem_filter.1 hx).1
  exact ⟨⟨by rw [hv]; exact h.ok.revoke id, fun x hx => h.told x (hs x hx), fun x hx => h.wait x (hs x hx), h.now0, h.now1, h.heap, h.qlen, h.qnum, fun x hx => h.due0 x (hs x hx)⟩, hv⟩
/-- A lease given other keys. -/
theorem TOk.keyed {n m : Nat} {T : LT} (h : TOk n T) (hm : n ≤ m) (id : Int) (f : List ByteArray → List ByteArray) (hok : ROk m (LT.view ⟨setL T.L id fun l => { l with keys := f l.keys }, T.now, T.q⟩)) :
    TOk m ⟨setL T.L id fun l => { l with keys := f l.keys }, T.now, T.q⟩ := by
  have h := h.up hm
  refine ⟨hok, ?_, ?_, h.now0, h.now1, h.heap, h.qlen, h.qnum, ?_⟩
  all_goals
    intro y hy
    dsimp only at hy
    obtain ⟨x, hx, e1, e2⟩ := setL_mem hy
    have a1 := h.told x hx
    have a2 := h.wait x hx
    have a3 := h.due0 x hx
    try dsimp only
    rw [e2]
    first | rw [← e1] | skip
    split <;> assumption
theorem TOk.detach {n : Nat} {T : LT} (h : TOk n T) {key : ByteArray} {id : Int} (ho : ofL T.L key = some id) :
    TOk n (detachT T id key) ∧ (detachT T id key).view = detachR T.view key := by
  have hv : (detachT T id key).view = detachR T.view key := by
    unfold detachT LT.view detachR setL
    dsimp only
    rw [List.map_map, List.map_map]
    refine List.map_congr_left fun x hx => ?_
    dsimp only [Function.comp]
    by_cases e : x.1 = id
    · rw [if_pos e]; rfl
    · rw [if_neg e]
      have hne : key ∉ x.2.keys := by
        intro hk
        have h1 := h.ok.of (List.mem_map_of_mem hx) (k := key) hk
        unfold LT.view at h1
        rw [ofL_view, ho] at h1
        exact e h1.symm
      show viewL T.now x = { viewL T.now x with keys := delK key x.2.keys }
      rw [delK_none hne]; rfl
  exact ⟨h.keyed (Nat.le_refl _) id (delK key) (hv.symm ▸ h.ok.detach key), hv⟩
theorem detachR_none {n : Nat} {R : List LV} (h : ROk n R) {key : ByteArray} (h0 : ofR R key = 0) : detachR R key = R := by
  have hz := of_zero h h0
  unfold detachR
  conv => rhs; rw [← List.map_id R]
  refine List.map_congr_left fun x hx => ?_
  rw [delK_none (hz x hx)]; rfl
/-- The second half of Attach: the key is laid into the lease; T is the table behind the first half. -/
theorem TOk.attach {n : Nat} {T T0 : LT} (h : TOk n T) {id : Int} {key : ByteArray} (h0 : T.view = detachR T0.view key) (hk : ROk (n + 1) (attachR T0.view id key)) :
    TOk (n + 1) (attachT T id key) ∧ (attachT T id key).view = attachR T0.view id key := by
  have hv : (attachT T id key).view = attachR T0.view id key := by
    unfold attachR
    rw [← h0]
    unfold attachT LT.view setL
    dsimp only
    rw [List.map_map, List.map_map]
    refine List.map_congr_left fun x hx => ?_
    dsimp only [Function.comp]
    by_cases e : x.1 = id
    · rw [if_pos e, if_pos (show (viewL T.now x).id = id from e)]; rfl
    · rw [if_neg e, if_neg (show ¬ (viewL T.now x).id = id from e)]
  exact ⟨h.keyed (Nat.le_succ _) id (insK key) (hv.symm ▸ hk), hv⟩

/-- Amid a Tick: out was told so far, q is left of the heap. -/
structure TickI (T : LT) (now : Int) (L : List (Int × Ls)) (q : List (Int × Int)) (out : List Int) : Prop where
  l : L = T.L.map fun x => if x.1 ∈ out then (x.1, { x.2 with told := true }) else x
  nd : out.Nodup
  due : ∀ i ∈ out, ∃ x ∈ T.L, x.1 = i ∧ x.2.told = false ∧ x.2.due ≤ now
  left : ∀ x ∈ T.L, x.2.told = false → (x.2.due, x.1) ∈ q ∨ x.1 ∈ out
  heap : HeapOk q
  sub : ∀ e ∈ q, e ∈ T.q
  len : q.length ≤ T.q.length
theorem TickI.start {n : Nat} {T : LT} (h : TOk n T) (now : Int) : TickI T now T.L T.q [] :=
  ⟨by simp, .nil, by simp, fun x hx ht => .inl (h.wait x hx ht).2, h.heap, fun _ h => h, Nat.le_refl _⟩
theorem TickI.getL {n : Nat} {T : LT} (_h : TOk n T) {now : Int} {L : List (Int × Ls)} {q : List (Int × Int)} {out : List Int} (a : TickI T now L q out) (i : Int) :
    getL L i = (getL T.L i).map fun l => if i ∈ out then { l with told := true } else l := by
  rw [a.l]
  unfold Proofs.Ytlomeohcgjgpjaa.getL
  induction T.L with
  | nil => rfl
  | cons x L ih =>
    rw [List.map_cons, List.find?_cons, List.find?_cons]
    have e : (if x.1 ∈ out then (x.1, { x.2 with told := true }) else x).1 = x.1 := by split <;> rfl
    rw [e]
    by_cases h : x.1 = i
    · subst h
      simp only [beq_self_eq_true, Option.map_some]
      split <;> rfl
    · have h2 : (x.1 == i) = false := by simpa using h
      rw [h2]; exact ih
theorem TickI.out_len {n : Nat} {T : LT} (_h : TOk n T) {now : Int} {L : List (Int × Ls)} {q : List (Int × Int)} {out : List Int} (a : TickI T now L q out) : out.length ≤ T.L.length := by
  have := nodup_le out (T.L.map (·.1)) a.nd fun i hi => by
    obtain ⟨x, hx, e, _⟩ := a.due i hi
    exact List.mem_map.2 ⟨x, hx, e⟩
  simpa using this
theorem TickI.skip {n : Nat} {T : LT} (h : TOk n T) {now : Int} {L : List (Int × Ls)} {q q' : List (Int × Int)} {out : List Int} {e : Int × Int} (a : TickI T now L q out) (hq : q.Perm (e :: q')) (hh : HeapOk q')
    (hs : ∀ l, Proofs.Ytlomeohcgjgpjaa.getL L e.2 = some l → l.due = e.1 → l.told = true) : TickI T now L q' out := by
  refine ⟨a.l, a.nd, a.due, fun x hx ht => ?_, hh, fun y hy => a.sub y (hq.mem_iff.2 (List.mem_cons_of_mem _ hy)), by have := hq.length_eq; have := a.len; simp at *; omega⟩
  rcases a.left x hx ht with h1 | h1
  · rcases List.mem_cons.1 (hq.mem_iff.1 h1) with h2 | h2
    · subst h2
      have hg := a.getL h x.1
      rw [getL_of h.rise hx] at hg
      by_cases ho : x.1 ∈ out
      · exact .inr ho
      · simp only [Option.map_some, if_neg ho] at hg
        have := hs _ hg rfl
        rw [ht] at this; cases this
    · exact .inl h2
  · exact .inr h1
theorem TickI.take {n : Nat} {T : LT} (h : TOk n T) {now : Int} {L : List (Int × Ls)} {q q' : List (Int × Int)} {out : List Int} {e : Int × Int} (a : TickI T now L q out) (hq : q.Perm (e :: q')) (hh : HeapOk q') (hn : e.1 ≤ now)
    {l : Ls} (hl : Proofs.Ytlomeohcgjgpjaa.getL L e.2 = some l) (hd : l.due = e.1) (ht : l.told = false) : TickI T now (setL L e.2 fun l => { l with told := true }) q' (out ++ [e.2]) := by
  have hg := a.getL h e.2
  rw [hl] at hg
  obtain ⟨l0, h0, h1⟩ := Option.map_eq_some_iff.1 hg.symm
  have hm := getL_mem h0
  have hno : e.2 ∉ out := by
    intro ho
    rw [if_pos ho] at h1
    rw [← h1] at ht; cases ht
  rw [if_neg hno] at h1
  subst h1
  refine ⟨?_, ?_, ?_, ?_, hh, fun y hy => a.sub y (hq.mem_iff.2 (List.mem_cons_of_mem _ hy)), by have := hq.length_eq; have := a.len; simp at *; omega⟩
  · rw [a.l]
    unfold setL
    rw [List.map_map]
    refine List.map_congr_left fun x hx => ?_
    dsimp only [Function.comp]
    show (fun z : Int × Ls => if z.1 = e.2 then (z.1, { z.2 with told := true }) else z) (if x.1 ∈ out then (x.1, { x.2 with told := true }) else x) = _
    by_cases e1 : x.1 ∈ out
    · rw [if_pos e1]
      dsimp only
      by_cases e2 : x.1 = e.2
      · rw [if_pos e2, if_pos (List.mem_append_left _ e1)]
      · rw [if_neg e2, if_pos (List.mem_append_left _ e1)]
    · rw [if_neg e1]
      dsimp only
      by_cases e2 : x.1 = e.2
      · rw [if_pos e2, if_pos (List.mem_append_right _ (List.mem_singleton.2 e2))]
      · rw [if_neg e2, if_neg (fun h => by rcases List.mem_append.1 h with h | h
                                           · exact e1 h
                                           · exact e2 (List.mem_singleton.1 h))]
  · rw [List.nodup_append]
    exact ⟨a.nd, by simp, fun x hx y hy => by rw [List.mem_singleton] at hy; subst hy; exact fun e => hno (e ▸ hx)⟩
  · intro i hi
    rcases List.mem_append.1 hi with hi | hi
    · exact a.due i hi
    · rw [List.mem_singleton] at hi
      subst hi
      exact ⟨_, hm, rfl, ht, by dsimp only; omega⟩
  · intro x hx hx2
    rcases a.left x hx hx2 with h1 | h1
    · rcases List.mem_cons.1 (hq.mem_iff.1 h1) with h2 | h2
      · exact .inr (by rw [← h2]; simp)
      · exact .inl h2
    · exact .inr (List.mem_append_left _ h1)
theorem rise_ext {a b : List Int} (ha : a.Pairwise (· < ·)) (hb : b.Pairwise (· < ·)) (h : ∀ x, x ∈ a ↔ x ∈ b) : a = b := by
  induction a generalizing b with
  | nil =>
    cases b with
    | nil => rfl
    | cons y b => exact absurd ((h y).2 (List.mem_cons_self ..)) (by simp)
  | cons x a ih =>
    cases b with
    | nil => exact absurd ((h x).1 (List.mem_cons_self ..)) (by simp)
    | cons y b =>
      obtain ⟨a1, a2⟩ := List.pairwise_cons.1 ha
      obtain ⟨b1, b2⟩ := List.pairwise_cons.1 hb
      have hxy : x = y := by
        rcases List.mem_cons.1 ((h x).1 (List.mem_cons_self ..)) with e | e
        · exact e
        · rcases List.mem_cons.1 ((h y).2 (List.mem_cons_self ..)) with e' | e'
          · exact e'.symm
          · have := b1 x e; have := a1 y e'; omega
      subst hxy
      rw [ih a2 b2 fun z => ?_]
      have := h z
      rw [List.mem_cons, List.mem_cons] at this
      constructor
      · intro hz
        rcases this.1 (.inr hz) with e | e
        · subst e; exact absurd (a1 z hz) (Int.lt_irrefl _)
        · exact e
      · intro hz
        rcases this.2 (.inr hz) with e | e
        · subst e; exact absurd (b1 z hz) (Int.lt_irrefl _)
        · exact e
theorem TickI.done {n : Nat} {T : LT} (h : TOk n T) {k : Int} (hk : 1 ≤ k) {L : List (Int × Ls)} {q : List (Int × Int)} {out so : List Int} (a : TickI T (T.now + min k maxT) L q out) (hq : ∀ e ∈ q, T.now + min k maxT < e.1)
    (hs : so.Pairwise (· < ·)) (hm : ∀ i, i ∈ so ↔ i ∈ out) :
    TOk (n + 1) ⟨L, T.now + min k maxT, q⟩ ∧ LT.view ⟨L, T.now + min k maxT, q⟩ = tickR T.view k ∧ so = toldR T.view k := by
  have h0 := h.now0
  have h1 := h.now1
  have hmx : maxT = 1073741824 := rfl
  have hmem : ∀ x ∈ T.L, x.1 ∈ out ↔ (x.2.told = false ∧ x.2.due ≤ T.now + min k maxT) := by
    intro x hx
    constructor
    · intro ho
      obtain ⟨y, hy, e, e1, e2⟩ := a.due _ ho
      rw [uniqL h.rise hx hy e.symm]; exact ⟨e1, e2⟩
    · rintro ⟨e1, e2⟩
      rcases a.left x hx e1 with h2 | h2
      · have := hq _ h2; dsimp only at this; omega
      · exact h2
  have hv : LT.view ⟨L, T.now + min k maxT, q⟩ = tickR T.view k := by
    unfold LT.view tickR
    rw [if_neg (by omega)]
    dsimp only
    rw [a.l, List.map_map, List.map_map]
    refine List.map_congr_left fun x hx => ?_
    have hx1 := h.num x hx
    have e : viewL (T.now + min k maxT) (if x.1 ∈ out then (x.1, { x.2 with told := true }) else x) = viewL (T.now + min k maxT) x := by split <;> rfl
    dsimp only [Function.comp]
    rw [e]
    unfold viewL tick1
    dsimp only
    congr 1
    split <;> omega
  refine ⟨⟨by rw [hv]; exact (h.ok.tick k).up (Nat.le_succ _), ?_, ?_, ?_, ?_, a.heap, Nat.le_trans a.len (Nat.le_trans h.qlen (Nat.le_succ _)), ?_, ?_⟩, hv, ?_⟩
  · intro y hy ht
    dsimp only at hy ⊢
    rw [a.l] at hy
    obtain ⟨x, hx, rfl⟩ := List.mem_map.1 hy
    split at ht
    · rename_i ho
      rw [if_pos ho]
      exact ((hmem x hx).1 ho).2
    · rename_i ho
      rw [if_neg ho]
      have := h.told x hx ht
      omega
  · intro y hy ht
    dsimp only at hy ⊢
    rw [a.l] at hy
    obtain ⟨x, hx, rfl⟩ := List.mem_map.1 hy
    split at ht
    · cases ht
    · rename_i ho
      rw [if_neg ho]
      rcases a.left x hx ht with h2 | h2
      · exact ⟨hq _ h2, h2⟩
      · exact absurd h2 ho
  · dsimp only; omega
  · dsimp only; unfold maxT at *; omega
  · intro e he
    have := h.qnum e (a.sub e he)
    unfold maxT at *; omega
  · intro y hy
    dsimp only at hy
    rw [a.l] at hy
    obtain ⟨x, hx, rfl⟩ := List.mem_map.1 hy
    have := h.due0 x hx
    split <;> assumption
  · refine rise_ext hs ?_ fun i => ?_
    · unfold toldR
      rw [if_neg (by omega), List.pairwise_map]
      exact h.ok.rise.filter _
    · rw [hm]
      unfold toldR
      rw [if_neg (by omega), List.mem_map]
      constructor
      · intro hi
        obtain ⟨x, hx, e, e1, e2⟩ := a.due i hi
        have hw := (h.wait x hx e1).1
        have hx1 := h.num x hx
        refine ⟨viewL T.now x, List.mem_filter.2 ⟨List.mem_map_of_mem hx, ?_⟩, e⟩
        unfold viewL
        simp only [Bool.and_eq_true, decide_eq_true_eq]
        omega
      · rintro ⟨y, hy, rfl⟩
        obtain ⟨hy1, hy2⟩ := List.mem_filter.1 hy
        obtain ⟨x, hx, rfl⟩ := List.mem_map.1 hy1
        have hx1 := h.num x hx
        unfold viewL at hy2
        simp only [Bool.and_eq_true, decide_eq_true_eq] at hy2
        refine (hmem x hx).2 ⟨?_, by omega⟩
        cases ht : x.2.told with
        | false => rfl
        | true => have := h.told x hx ht; omega
end Go.Proofs.Ytlomeohcgjgpjaa
