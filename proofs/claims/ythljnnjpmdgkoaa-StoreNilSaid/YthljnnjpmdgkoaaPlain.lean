/- What an event does to a store's bounds (StOk), and keys looked up behind a key was set. Plain facts; no program is run. -/
import Derived.Test.YthljnnjpmdgkoaaAns
namespace Go.Proofs.Ythljnnjpmdgkoaa
open Go Go.Proofs Go.RowKit
set_option maxRecDepth 100000

theorem getT_cons (q : ByteArray × Int) (X : Pairs) (k : ByteArray) : getT (q :: X) k = if keq q.1 k then (q.2, true) else getT X k := by
  unfold getT
  rw [List.find?_cons]
  cases h : keq q.1 k <;> simp
theorem getT_insT (T : Pairs) (k : ByteArray) (m : Int) (k' : ByteArray) : getT (insT T k m) k' = if keq k k' then (m, true) else getT T k' := by
  induction T with
  | nil =>
    unfold insT
    rw [getT_cons]
  | cons p T ih =>
    unfold insT
    split
    · rename_i h
      rw [getT_cons, getT_cons, ih]
      cases h1 : keq p.1 k' <;> cases h2 : keq k k' <;> simp
      have e1 := keq_iff.1 h1
      have e2 := keq_iff.1 h2
      rw [e1, e2, klt_irrefl] at h
      cases h
    · split
      · rename_i h2
        rw [getT_cons, getT_cons]
        cases h1 : keq k k' with
        | true => simp
        | false =>
          have : keq p.1 k' = false := by rw [keq_iff.1 h2]; exact h1
          simp [this]
      · rw [getT_cons]
theorem mem_insT {T : Pairs} {k : ByteArray} {m : Int} {q : ByteArray × Int} (h : q ∈ insT T k m) : q ∈ T ∨ q = (k, m) := by
  induction T with
  | nil => exact .inr (by simpa [insT] using h)
  | cons p T ih =>
    unfold insT at h
    split at h
    · rcases List.mem_cons.1 h with h | h
      · exact .inl (by simp [h])
      · rcases ih h with h | h
        · exact .inl (by simp [h])
        · exact .inr h
    · split at h
      · rcases List.mem_cons.1 h with h | h
        · exact .inr h
        · exact .inl (by simp [h])
      · rcases List.mem_cons.1 h with h | h
        · exact .inr h
        · exact .inl h
theorem getT_mem {T : Pairs} {k : ByteArray} (h : (getT T k).2 = true) : (k, (getT T k).1) ∈ T := by
  unfold getT at h ⊢
  cases hf : T.find? fun p => keq p.1 k with
  | none => rw [hf] at h; cases h
  | some p =>
    have h1 := List.mem_of_find?_eq_some hf
    have h2 := List.find?_some hf
    have h3 := keq_iff.1 h2
    obtain ⟨a, b⟩ := p
    dsimp only at h3 ⊢
    subst h3
    exact h1

theorem mem_modify' {α : Type} {l : List α} {i : Nat} {f : α → α} {y : α} (h : y ∈ l.modify i f) : ∃ x ∈ l, y = x ∨ y = f x := by
  obtain ⟨j, hj⟩ := List.mem_iff_getElem?.1 h
  rw [List.getElem?_modify] at hj
  cases hx : l[j]? with
  | none => rw [hx] at hj; simp at hj
  | some x =>
    rw [hx] at hj
    refine ⟨x, List.mem_of_getElem? hx, ?_⟩
    by_cases hi : i = j
    · right; simpa [hi] using hj.symm
    · left; simpa [hi] using hj.symm

theorem HistOk.mono {n m : Nat} {H : Hist} (h : HistOk n H) (hm : n ≤ m) : HistOk m H :=
  ⟨Nat.le_trans h.len hm, fun x hx => ⟨Nat.le_trans (h.puts x hx).1 hm, (h.puts x hx).2⟩⟩
theorem newH_ok (n : Nat) : HistOk n newH := ⟨by simp [newH], by simp [newH]⟩
theorem putH_ok {n : Nat} {H : Hist} (h : HistOk n H) (x : Kv) (h1 : 1 ≤ x.mod) (h2 : x.mod ≤ top) : HistOk (n + 1) (putH H x) := by
  unfold putH putK
  refine ⟨?_, fun y hy => ?_⟩
  · have := h.len
    dsimp only
    split
    · rw [List.length_modify]; omega
    · simp; omega
  · dsimp only at hy
    split at hy
    · obtain ⟨z, hz, e | e⟩ := mem_modify' hy
      · subst e
        exact ⟨Nat.le_succ_of_le (h.puts y hz).1, (h.puts y hz).2⟩
      · subst e
        have := h.puts z hz
        refine ⟨by simp; omega, this.2.1, this.2.2.1, fun p hp => ?_⟩
        rcases List.mem_append.1 hp with hp | hp
        · exact this.2.2.2 p hp
        · rw [List.mem_singleton.1 hp]; exact ⟨h1, h2⟩
    · rcases List.mem_append.1 hy with hy | hy
      · exact ⟨Nat.le_succ_of_le (h.puts y hy).1, (h.puts y hy).2⟩
      · rw [List.mem_singleton.1 hy]
        refine ⟨by simp, by simp, by simp [top], fun p hp => ?_⟩
        rw [List.mem_singleton.1 hp]; exact ⟨h1, h2⟩
theorem tombH_ok {n : Nat} {H : Hist} (h : HistOk n H) (rev : Int) : HistOk n (tombH H rev) := by
  unfold tombH tombK
  refine ⟨by rw [List.length_modify]; exact h.len, fun y hy => ?_⟩
  obtain ⟨z, hz, e | e⟩ := mem_modify' hy
  · subst e; exact h.puts y hz
  · subst e; exact h.puts z hz

theorem StOk.mono {n m : Nat} {S : St} (h : StOk n S) (hm : n ≤ m) : StOk m S :=
  { h with next := Int.le_trans h.next (by omega), hist := fun i H hi => ⟨(h.hist i H hi).1.mono hm, (h.hist i H hi).2⟩, ev := Nat.le_trans h.ev hm }

theorem madeS_ok {n : Nat} {S : St} (h : StOk n S) (key : ByteArray) :
    StOk (n + 1) (madeS S key) ∧ (0 ≤ idS S key ∧ idS S key < (madeS S key).next) ∧ ∃ H, (madeS S key).past (idS S key) = some H ∧ HistOk n H ∧ H.last ≤ top := by
  unfold madeS idS
  cases hg : (getT S.T key).2 with
  | true =>
    simp only [if_true]
    obtain ⟨H, hH⟩ := h.id _ (getT_mem hg)
    exact ⟨h.mono (by omega), h.ids _ H hH, H, hH, (h.hist _ H hH).1, (h.hist _ H hH).2⟩
  | false =>
    simp only [if_false, Bool.false_eq_true]
    refine ⟨{ pos := by have := h.pos; dsimp only; omega, next := by have := h.next; dsimp only; omega, id := fun p hp => ?_, ids := fun i H hi => ?_, hist := fun i H hi => ?_, rev0 := h.rev0, rev1 := h.rev1, mark0 := h.mark0, ev := Nat.le_succ_of_le h.ev }, ⟨h.pos, by omega⟩, newH, by simp, newH_ok n, by simp [newH, top]⟩
    · dsimp only at hp ⊢
      by_cases e : p.2 = S.next
      · exact ⟨newH, by rw [if_pos e]⟩
      · rw [if_neg e]
        rcases mem_insT hp with hp | hp
        · exact h.id p hp
        · exact absurd (by rw [hp]) e
    · dsimp only at hi ⊢
      have := h.pos
      by_cases e : i = S.next
      · omega
      · rw [if_neg e] at hi
        have := h.ids i H hi
        omega
    · dsimp only at hi
      by_cases e : i = S.next
      · rw [if_pos e] at hi
        obtain rfl := Option.some.inj hi
        exact ⟨newH_ok _, by simp [newH, top]⟩
      · rw [if_neg e] at hi
        exact ⟨(h.hist i H hi).1.mono (by omega), (h.hist i H hi).2⟩

theorem putS_ok {n : Nat} {S : St} (h : StOk n S) (x : Kv) (h1 : 1 ≤ x.mod) (h2 : x.mod ≤ top) : StOk (n + 1) (putS S x) := by
  obtain ⟨hm, hid, H0, hH0, hk0, hl0⟩ := madeS_ok h x.key
  unfold putS
  rw [hH0]
  refine { pos := hm.pos, next := hm.next, id := fun p hp => ?_, ids := fun i H hi => ?_, hist := fun i H hi => ?_, rev0 := hm.rev0, rev1 := hm.rev1, mark0 := hm.mark0, ev := hm.ev }
  · dsimp only
    split
    · exact ⟨_, rfl⟩
    · exact hm.id p hp
  · dsimp only at hi ⊢
    split at hi
    · rename_i e; rw [e]; exact hid
    · exact hm.ids i H hi
  · dsimp only at hi
    split at hi
    · obtain rfl := Option.some.inj hi
      exact ⟨putH_ok hk0 x h1 h2, h2⟩
    · exact hm.hist i H hi

theorem tombS_ok {n : Nat} {S : St} (h : StOk n S) (x : Kv) (h2 : x.mod ≤ top) : StOk n (tombS S x) := by
  unfold tombS
  split
  · rename_i hg
    refine { pos := h.pos, next := h.next, id := fun p hp => ?_, ids := fun i H hi => ?_, hist := fun i H hi => ?_, rev0 := h.rev0, rev1 := h.rev1, mark0 := h.mark0, ev := h.ev }
    · dsimp only
      split
      · obtain ⟨H, hH⟩ := h.id _ (getT_mem hg)
        dsimp only at hH
        exact ⟨_, by rw [hH]; rfl⟩
      · exact h.id p hp
    · dsimp only at hi ⊢
      split at hi
      · rename_i e
        cases hH : S.past (getT S.T x.key).1 with
        | none => rw [hH] at hi; cases hi
        | some H0 => rw [e]; exact h.ids _ H0 hH
      · exact h.ids i H hi
    · dsimp only at hi
      split at hi
      · cases hH : S.past (getT S.T x.key).1 with
        | none => rw [hH] at hi; cases hi
        | some H0 =>
          rw [hH] at hi
          obtain rfl := Option.some.inj hi
          exact ⟨tombH_ok (h.hist _ H0 hH).1 _, h2⟩
      · exact h.hist i H hi
  · exact h

theorem doneS_ok {n : Nat} {S : St} (h : StOk n S) (x : Ev) (h1 : 1 ≤ x.kv.mod) (h2 : x.kv.mod ≤ top) : StOk (n + 1) (doneS S x) := by
  unfold doneS
  split
  · exact putS_ok h _ h1 h2
  · exact (tombS_ok h _ h2).mono (by omega)
theorem doS_ok {n : Nat} {S : St} (h : StOk n S) (x : Ev) (h1 : 1 ≤ x.kv.mod) (h2 : x.kv.mod ≤ top) : StOk (n + 1) (doS S x) := by
  have hd := doneS_ok h x h1 h2
  have he := doneS_events S x
  unfold doS
  refine { hd with ev := ?_ }
  dsimp only
  rw [he]
  have := h.ev
  simp; omega
theorem StOk.setRev {n : Nat} {S : St} (h : StOk n S) (r : Int) (h0 : -top ≤ r) (h1 : r ≤ top) : StOk n { S with rev := r } := { h with rev0 := h0, rev1 := h1 }
end Go.Proofs.Ythljnnjpmdgkoaa
