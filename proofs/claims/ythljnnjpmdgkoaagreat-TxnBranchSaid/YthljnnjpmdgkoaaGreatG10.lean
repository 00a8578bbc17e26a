/- Own lemmas and contracts that the claim's proof needs, laid together. The conditions stand in each. -/
import Derived.Test.YthljnnjpmdgkoaaGreatG09
import Derived.Test.YthljnnjpmdgkoaaGreatG06
import Derived.Test.YthljnnjpmdgkoaaGreatG08
import Derived.Test.YthljnnjpmdgkoaaGreatG01
import Derived.Test.YthljnnjpmdgkoaaGreatG03
import Derived.Lib.SliceRun
namespace Go.Proofs.YthljnnjpmdgkoaaGreat
open Go Go.Proofs Go.RowKit
theorem zci {T : Pairs} (h : Sorted T) {p : ByteArray × Int} (hp : p ∈ T) : getT T p.1 = (p.2, true) := by
 induction T with
 | nil => cases hp
 | cons q T ih =>
   obtain ⟨h1, h2⟩ := List.pairwise_cons.1 h; rw [zcw]; rcases List.mem_cons.1 hp with rfl | hp
   · rw [zat.2 rfl]; rfl
   · rw [klt_ne (h1 p hp)]; exact ih h2 hp
def rgB (frm upr k : ByteArray) : Bool := !klt k frm && (upr.toList.isEmpty || klt k upr)
theorem Cpl.has {S : St} {D : Doc} (h : Cpl S D) {k : ByteArray} {r : Int} (hr : D.mark ≤ r) {y : Kv} (hy : hasL (D.at r) k = some y) : (getT S.T k).2 = true := by
 have h1 := h.lives k r hr; rw [hy] at h1
 cases hg : (getT S.T k).2 with
 | true => rfl
 | false =>
   unfold livesS at h1; rw [hg] at h1; simp [seen] at h1
theorem Cpl.oneL {S : St} {D : Doc} (h : Cpl S D) (hT : Sorted S.T) {r : Int} (hr : D.mark ≤ r) {p : ByteArray × Int} (hp : p ∈ S.T) : Go.Proofs.YthljnnjpmdgkoaaGreat.oneL S r p = hasL (D.at r) p.1 := by
 have h1 := h.lives p.1 r hr; have hg := zci hT hp; unfold livesS at h1; rw [hg] at h1; simp only [if_true] at h1; obtain ⟨H, hH⟩ := h.inv.has p.1 (by rw [hg]); rw [hg] at hH; unfold Go.Proofs.YthljnnjpmdgkoaaGreat.oneL; dsimp only at hH; rw [hH] at h1 ⊢
 dsimp only at h1 ⊢
 rw [h1]; cases hasL (D.at r) p.1 <;> simp [seen]
theorem Cpl.between {S : St} {D : Doc} (h : Cpl S D) (hT : Sorted S.T) (frm upr : ByteArray) {r : Int} (hr : D.mark ≤ r) : zam S (rangeT S.T frm upr) r = (D.at r).filter fun y => rgB frm upr y.key := by
 have hL := Doc.at_sorted h.ks r
 have hmem : ∀ y, y ∈ zam S (rangeT S.T frm upr) r ↔ y ∈ D.at r ∧ rgB frm upr y.key = true := by
  intro y; unfold zam rangeT; rw [List.mem_filterMap]
  constructor
  · rintro ⟨p, hp, hy⟩
    obtain ⟨hp1, hp2⟩ := List.mem_filter.1 hp; rw [h.oneL hT hr hp1] at hy; obtain ⟨a, b⟩ := (zbw hL _ _).1 hy; exact ⟨a, by rw [b]; exact hp2⟩
  · rintro ⟨hy, hf⟩
    have h1 := (zbw hL y.key y).2 ⟨hy, rfl⟩; have h2 := zfg (h.has hr h1); exact ⟨_, List.mem_filter.2 ⟨h2, hf⟩, by rw [h.oneL hT hr h2]; exact h1⟩
 have hs : KSorted (zam S (rangeT S.T frm upr) r) := by
  unfold zam KSorted; rw [List.pairwise_filterMap]; have hR : Sorted (rangeT S.T frm upr) := List.Pairwise.sublist List.filter_sublist hT; refine List.Pairwise.imp_of_mem (fun {p q} hp hq hpq => ?_) hR; intro a ha b hb; rw [h.oneL hT hr (zgs hp)] at ha; rw [h.oneL hT hr (zgs hq)] at hb; rw [((zbw hL _ _).1 ha).2, ((zbw hL _ _).1 hb).2]; exact hpq
 have hs2 : KSorted ((D.at r).filter fun y => rgB frm upr y.key) := List.Pairwise.sublist List.filter_sublist hL; refine znl hs hs2 fun key => zsl fun y => ?_; rw [zbw hs, zbw hs2, hmem, List.mem_filter]
def ESorted (l : List Ev) : Prop := l.Pairwise fun a b => a.kv.mod ≤ b.kv.mod
def Doc.cut (D : Doc) (r : Int) : Doc := ⟨D.rev, r, D.at r, D.events.filter fun e => decide (r ≤ e.kv.mod) && decide (e.kv.mod ≤ D.rev)⟩
theorem zhb {l : List Ev} (h : ESorted l) (m R r : Int) (h1 : m ≤ R) (h2 : R ≤ r) :
 (l.filter fun e => decide (m < e.kv.mod) && decide (e.kv.mod ≤ r)) = (l.filter fun e => decide (m < e.kv.mod) && decide (e.kv.mod ≤ R)) ++ l.filter fun e => decide (R < e.kv.mod) && decide (e.kv.mod ≤ r) := by
 induction l with
 | nil => rfl
 | cons x l ih =>
   obtain ⟨a1, a2⟩ := List.pairwise_cons.1 h; have ih := ih a2; by_cases hx : x.kv.mod ≤ R
   · have hn : ¬ R < x.kv.mod := by omega
     have hr : x.kv.mod ≤ r := (by omega); by_cases hm : m < x.kv.mod
     · simp only [List.filter_cons, hx, hn, hr, hm, decide_true, decide_false, Bool.and_true, Bool.and_self, if_true, Bool.false_eq_true, if_false, List.cons_append]
       rw [ih]
     · simp only [List.filter_cons, hm, hn, decide_false, Bool.false_and, Bool.false_eq_true, if_false]
       exact ih
   · have hnil : (l.filter fun e => decide (m < e.kv.mod) && decide (e.kv.mod ≤ R)) = [] := List.filter_eq_nil_iff.2 fun e he => by have := a1 e he; simp; omega
     rw [hnil] at ih; have hm : m < x.kv.mod := (by omega); have hR : R < x.kv.mod := (by omega); simp only [List.filter_cons, hx, hm, hR, hnil, decide_true, decide_false, Bool.and_false, Bool.true_and, Bool.false_eq_true, if_false, List.nil_append]; rw [ih]; rfl
theorem Doc.cut_at {D : Doc} (h : ESorted D.events) {R r : Int} (h1 : D.mark ≤ R) (h2 : R ≤ r) (hm : ∀ e ∈ D.events, e.kv.mod ≤ D.rev) : (D.cut R).at r = D.at r := by
 unfold Doc.at Doc.cut; dsimp only; rw [zhb h D.mark R r h1 h2, List.foldl_append, List.filter_filter]
 unfold Doc.at
 congr 1
 refine List.filter_congr fun e he => ?_; have := hm e he; by_cases a : R < e.kv.mod <;> by_cases b : e.kv.mod ≤ r <;> simp [a, b] <;> omega
structure DocOk (n : Nat) (D : Doc) : Prop where
 es : ESorted D.events
 lo : ∀ e ∈ D.events, 1 ≤ e.kv.mod ∧ D.mark ≤ e.kv.mod ∧ e.kv.mod ≤ D.rev
 full : ∀ r, 1 ≤ r → D.mark ≤ r → r ≤ D.rev → ∃ e ∈ D.events, e.kv.mod = r
 uniq : D.events.Pairwise fun a b => a.kv.mod = b.kv.mod → a.kv.key ≠ b.kv.key
 prev : ∀ A e B, D.events = A ++ e :: B → D.mark < e.kv.mod → e.prev = (hasL ((A.filter fun y => decide (D.mark < y.kv.mod)).foldl doneL D.kvs) e.kv.key).getD kv0
 kind : ∀ e ∈ D.events, e.kind = 1 ∨ e.kind = 2
 ver0 : ∀ k ∈ D.kvs, 1 ≤ k.version ∧ k.version ≤ n
 ver : ∀ e ∈ D.events, e.kind = 1 → 1 ≤ e.kv.version ∧ e.kv.version ≤ n
theorem DocOk.mono {n m : Nat} {D : Doc} (h : DocOk n D) (hm : n ≤ m) : DocOk m D :=
 { h with ver0 := fun k hk => by have := h.ver0 k hk; omega, ver := fun e he h1 => by have := h.ver e he h1; omega }
theorem zhx {l : List Kv} (h : KSorted l) (es : List Ev) (y : Kv) (hy : y ∈ es.foldl doneL l) : y ∈ l ∨ ∃ e ∈ es, e.kind = 1 ∧ y = e.kv := by
 induction es generalizing l with
 | nil => exact .inl hy
 | cons e es ih =>
   rcases ih (zez h e) hy with h1 | ⟨e', h1, h2⟩
   · rcases (zhy h e y).1 h1 with ⟨h2, h3⟩ | ⟨h2, _⟩
     · exact .inr ⟨e, List.mem_cons_self, h2, h3⟩
     · exact .inl h2
   · exact .inr ⟨e', List.mem_cons_of_mem _ h1, h2⟩
theorem Doc.mem_at {D : Doc} (h : KSorted D.kvs) {r : Int} {y : Kv} (hy : y ∈ D.at r) : y ∈ D.kvs ∨ ∃ e ∈ D.events, e.kind = 1 ∧ y = e.kv := by
 rcases zhx h _ y hy with h1 | ⟨e, h1, h2⟩
 · exact .inl h1
 · exact .inr ⟨e, (List.mem_filter.1 h1).1, h2⟩
theorem DocOk.ver_at {n : Nat} {D : Doc} (h : DocOk n D) (hs : KSorted D.kvs) {r : Int} {y : Kv} (hy : y ∈ D.at r) : 1 ≤ y.version ∧ y.version ≤ n := by
 rcases Doc.mem_at hs hy with h1 | ⟨e, h1, h2, rfl⟩
 · exact h.ver0 y h1
 · exact h.ver e h1 h2
theorem DocOk.ver_has {n : Nat} {D : Doc} (h : DocOk n D) (hs : KSorted D.kvs) (r : Int) (k : ByteArray) : 0 ≤ ((hasL (D.at r) k).getD kv0).version ∧ ((hasL (D.at r) k).getD kv0).version ≤ n := by
 cases hh : hasL (D.at r) k with
 | none => exact ⟨Int.le_refl 0, by show (0 : Int) ≤ n; omega⟩
 | some y =>
   have := h.ver_at hs ((zbw (Doc.at_sorted hs r) k y).1 hh).1
   show 0 ≤ y.version ∧ y.version ≤ n
   omega
theorem Doc.at_all {D : Doc} (hm : ∀ e ∈ D.events, e.kv.mod ≤ D.rev) {r : Int} (h : D.rev ≤ r) : D.at r = (D.events.filter fun y => decide (D.mark < y.kv.mod)).foldl doneL D.kvs := by
 unfold Doc.at
 congr 1
 refine List.filter_congr fun e he => ?_; have := hm e he; have h1 : e.kv.mod ≤ r := by omega
 simp [h1]
theorem zqa {α : Type} {l A B : List α} {x e : α} (h : l ++ [x] = A ++ e :: B) : (A = l ∧ e = x ∧ B = []) ∨ ∃ B', B = B' ++ [x] ∧ l = A ++ e :: B' := by
 rcases List.eq_nil_or_concat B with rfl | ⟨B', y, rfl⟩
 · left
   have h2 := List.append_inj_right' h (by simp); have h1 := List.append_inj_left' h (by simp); exact ⟨h1.symm, by simpa using h2.symm, rfl⟩
 · right
   have e1 : A ++ e :: (B' ++ [y]) = (A ++ e :: B') ++ [y] := (by simp); simp only [List.concat_eq_append] at h; rw [e1] at h; have h2 := List.append_inj_right' h (by simp); have h1 := List.append_inj_left' h (by simp); refine ⟨B', ?_, h1⟩; simp only [List.concat_eq_append]; rw [show y = x by simpa using h2.symm]
theorem DocOk.add {n : Nat} {D : Doc} (h : DocOk n D) (x : Ev) (h1 : 1 ≤ x.kv.mod) (hm : D.mark < x.kv.mod) (hr : D.rev ≤ x.kv.mod) (hr2 : x.kv.mod ≤ D.rev + 1) (hp : x.prev = (hasL (D.at x.kv.mod) x.kv.key).getD kv0)
 (hk : x.kind = 1 ∨ x.kind = 2) (hv : x.kind = 1 → 1 ≤ x.kv.version ∧ x.kv.version ≤ n + 1) (hu : ∀ e ∈ D.events, e.kv.mod = x.kv.mod → e.kv.key ≠ x.kv.key) : DocOk (n + 1) (D.add x) := by
 refine ⟨?_, fun e he => ?_, fun r a b c => ?_, ?_, fun A e B hAB hmark => ?_, fun e he => ?_, fun k hk => ?_, fun e he h1 => ?_⟩
 · refine List.pairwise_append.2 ⟨h.es, by simp, fun a ha b hb => ?_⟩
   rw [List.mem_singleton.1 hb]; have := h.lo a ha; omega
 · rcases List.mem_append.1 he with he | he
   · have := h.lo e he
     exact ⟨this.1, this.2.1, by show e.kv.mod ≤ x.kv.mod; omega⟩
   · rw [List.mem_singleton.1 he]
     exact ⟨h1, by show D.mark ≤ x.kv.mod; omega, Int.le_refl _⟩
 · by_cases e : r = x.kv.mod
   · exact ⟨x, List.mem_append_right _ List.mem_cons_self, e.symm⟩
   · have c' : r ≤ x.kv.mod := c
     obtain ⟨y, hy, e'⟩ := h.full r a b (by omega); exact ⟨y, List.mem_append_left _ hy, e'⟩
 · refine List.pairwise_append.2 ⟨h.uniq, by simp, fun a ha b hb => ?_⟩
   rw [List.mem_singleton.1 hb]; exact hu a ha
 · rcases zqa (show D.events ++ [x] = A ++ e :: B from hAB) with ⟨rfl, rfl, rfl⟩ | ⟨B', _, h2⟩
   · rw [hp, Doc.at_all (fun e he => (h.lo e he).2.2) hr]
     rfl
   · exact h.prev A e B' h2 hmark
 · rcases List.mem_append.1 he with he | he
   · exact h.kind e he
   · rw [List.mem_singleton.1 he]; exact hk
 · have := h.ver0 k hk; omega
 · rcases List.mem_append.1 he with he | he
   · have := h.ver e he h1; omega
   · rw [List.mem_singleton.1 he] at h1 ⊢
     have := hv h1; omega
theorem zmd {α : Type} {l A B : List α} {e : α} {p : α → Bool} (h : l.filter p = A ++ e :: B) : ∃ A' B', l = A' ++ e :: B' ∧ A = A'.filter p ∧ B = B'.filter p := by
 induction l generalizing A with
 | nil => simp at h
 | cons x l ih =>
   rw [List.filter_cons] at h; by_cases hp : p x = true
   · rw [if_pos hp] at h
     cases A with
     | nil =>
       simp only [List.nil_append, List.cons.injEq] at h; obtain ⟨rfl, h⟩ := h; exact ⟨[], l, rfl, rfl, h.symm⟩
     | cons a A =>
       simp only [List.cons_append, List.cons.injEq] at h; obtain ⟨rfl, h⟩ := h; obtain ⟨A', B', h1, h2, h3⟩ := ih h; exact ⟨x :: A', B', by rw [h1]; rfl, by rw [List.filter_cons, if_pos hp, h2], h3⟩
   · rw [if_neg hp] at h
     obtain ⟨A', B', h1, h2, h3⟩ := ih h; exact ⟨x :: A', B', by rw [h1]; rfl, by rw [List.filter_cons, if_neg hp, h2], h3⟩
theorem DocOk.cut {n : Nat} {D : Doc} (h : DocOk n D) (hs : KSorted D.kvs) (R : Int) (hR : D.mark < R) (_hR2 : R ≤ D.rev) : DocOk n (D.cut R) := by
 have hsub : ∀ e ∈ (D.cut R).events, e ∈ D.events ∧ R ≤ e.kv.mod := fun e he => by
  obtain ⟨h1, h2⟩ := List.mem_filter.1 he; simp only [Bool.and_eq_true, decide_eq_true_eq] at h2; exact ⟨h1, h2.1⟩
 refine ⟨List.Pairwise.sublist List.filter_sublist h.es, fun e he => ?_, fun r a b c => ?_, List.Pairwise.sublist List.filter_sublist h.uniq, fun A e B hAB hmark => ?_, fun e he => h.kind e (hsub e he).1, fun k hk => h.ver_at hs hk, fun e he => h.ver e (hsub e he).1⟩
 · have := h.lo e (hsub e he).1
   exact ⟨this.1, (hsub e he).2, this.2.2⟩
 · have b' : R ≤ r := b
   obtain ⟨e, he, h1⟩ := h.full r a (by omega) c; have c' : r ≤ D.rev := c; exact ⟨e, List.mem_filter.2 ⟨he, by simp; omega⟩, h1⟩
 · have hmark' : R < e.kv.mod := hmark
   obtain ⟨A', B', h1, h2, h3⟩ := zmd (show D.events.filter _ = A ++ e :: B from hAB); rw [h.prev A' e B' h1 (by omega)]
   congr 2
   -- what lives ahead of the event is the same
   have hA : ESorted A' := (by have := h.es; rw [h1] at this; exact (List.pairwise_append.1 this).1)
   have hAm : ∀ y ∈ A', y.kv.mod ≤ e.kv.mod := by
    have := h.es; rw [h1] at this; exact fun y hy => (List.pairwise_append.1 this).2.2 y hy e List.mem_cons_self
   have hem := (h.lo e (by rw [h1]; simp)).2.2; have hp := zhb hA D.mark R e.kv.mod (by omega) (by omega)
   have e1 : (A'.filter fun y => decide (D.mark < y.kv.mod)) = A'.filter fun y => decide (D.mark < y.kv.mod) && decide (y.kv.mod ≤ e.kv.mod) := List.filter_congr fun y hy => by
    have := hAm y hy; simp [this]
   rw [e1, hp, List.foldl_append]
   have e2 : (A.filter fun y => decide ((D.cut R).mark < y.kv.mod)) = A'.filter fun y => decide (R < y.kv.mod) && decide (y.kv.mod ≤ e.kv.mod) := by
    rw [h2, List.filter_filter]; refine List.filter_congr fun y hy => ?_; have hy1 := hAm y hy
    show (decide (R < y.kv.mod) && (decide (R ≤ y.kv.mod) && decide (y.kv.mod ≤ D.rev))) = _
    by_cases hRy : R < y.kv.mod
    · have a1 : R ≤ y.kv.mod := by omega
      have a2 : y.kv.mod ≤ D.rev := (by omega); simp [hRy, a1, a2, hy1]
    · simp [hRy]
   rw [e2]
   congr 1
   show _ = (D.events.filter fun e => decide (D.mark < e.kv.mod) && decide (e.kv.mod ≤ R)).foldl doneL D.kvs
   congr 1
   rw [h1, List.filter_append]
   have e3 : ((e :: B').filter fun e => decide (D.mark < e.kv.mod) && decide (e.kv.mod ≤ R)) = [] := List.filter_eq_nil_iff.2 fun y hy => by
    have := h.es; rw [h1] at this; have h4 := (List.pairwise_append.1 this).2.1; rcases List.mem_cons.1 hy with rfl | hy
    · simp; omega
    · have := (List.pairwise_cons.1 h4).1 y hy
      simp; omega
   rw [e3, List.append_nil]
theorem zpi : ∀ (f k : List UInt8), (¬ k < f ∧ k < f ++ [0]) ↔ k = f
 | [], [] => by simp
 | [], a :: k => by
   simp only [List.nil_append, List.cons_lt_cons_iff, List.not_lt_nil, and_false, or_false]
   constructor
   · rintro ⟨_, h⟩
     exact absurd h (by have := a.toNat_lt; rw [UInt8.lt_iff_toNat_lt]; simp)
   · intro h; cases h
 | b :: f, [] => by simp
 | b :: f, a :: k => by
   have ih := zpi f k; simp only [List.cons_append, List.cons_lt_cons_iff, List.cons.injEq]
   constructor
   · rintro ⟨h1, h2 | ⟨rfl, h2⟩⟩
     · exact absurd (.inl h2) h1
     · exact ⟨rfl, ih.1 ⟨fun h => h1 (.inr ⟨rfl, h⟩), h2⟩⟩
   · rintro ⟨rfl, rfl⟩
     have h3 := ih.2 rfl; refine ⟨?_, .inr ⟨rfl, h3.2⟩⟩; rintro (h | ⟨_, h⟩)
     · exact absurd h (by rw [UInt8.lt_iff_toNat_lt]; omega)
     · exact h3.1 h
theorem zvu (frm end_ k : ByteArray) : rgB frm (toOf frm end_) k = inB k frm end_ := by
 unfold rgB toOf inB
 cases h1 : end_.toList.isEmpty with
 | true =>
   simp only [if_true]
   have he : (frm ++ (⟨#[0]⟩ : ByteArray)).toList.isEmpty = false := by
    rw [Lib.toList_data]; simp
   rw [he, Bool.false_or]; have hl := zpi frm.data.toList k.data.toList
   have h2 : klt k (frm ++ ⟨#[0]⟩) = true ↔ k.data.toList < frm.data.toList ++ [0] := by
    rw [zdd]; simp
   rw [Bool.eq_iff_iff, Bool.and_eq_true, Bool.not_eq_true', Bool.eq_false_iff, Ne, zdd, h2, hl, beq_iff_eq, Lib.toList_data, Lib.toList_data]
 | false =>
   simp only [Bool.false_eq_true, if_false]
   cases h2 : (end_.toList == [0]) with
   | true =>
     simp only [if_true]; have : (ByteArray.empty).toList.isEmpty = true := (by rw [Lib.toList_data]; rfl); rw [this]; simp [klt]
   | false =>
     simp only [Bool.false_eq_true, if_false]; rw [h1]; simp [klt]
open Go Go.RowKit
theorem zjq {z : Array Value} {n : Nat} {v : Value} (h : v ∈ (Builtin.zeroCells z n).toList) : ∃ i, i < z.size ∧ v = z[i]! := by
 unfold Builtin.zeroCells at h; simp only [Array.toList_map, List.mem_map, Array.toList_range, List.mem_range] at h; obtain ⟨i, hi, rfl⟩ := h; rcases Nat.eq_zero_or_pos z.size with h0 | h0
 · rw [h0] at hi; omega
 · exact ⟨i % z.size, Nat.mod_lt _ h0, rfl⟩
theorem zbm (z : Array Value) (n : Nat) : (Builtin.zeroCells z n).toList.length = n * z.size := by
 unfold Builtin.zeroCells; simp
theorem zen {P : Program} (w : World) (t e ty : TypeId) (z : Value) (ht : P.underlying t = some (.slice e)) (hv : ∀ w, (zeroValue e).run P w = .ok z w) (h1 : ∀ i, i < z.cells.size → z.cells[i]!.oneCell' = true) (g o n c : Nat) (cur : Array Value) (et : TypeId)
 (hg : w.heap[g]? = some (.cells cur et (0, 0))) (hfit : o + n * z.cells.size ≤ cur.size) :
 ∃ w', (Builtin.clear_ #[t] ty #[.slice (some ⟨g, o, none⟩) n c]).run P w = .ok (.tuple #[]) w' ∧
  w'.heap[g]? = some (.cells (cur.toList.take o ++ (Builtin.zeroCells z.cells n).toList ++ cur.toList.drop (o + n * z.cells.size)).toArray et (0, 0)) ∧ w.grownBy w' (some g) := by
 have hl := zbm z.cells n; have hst := run_storeCells_at P g o et (Builtin.zeroCells z.cells n).toList 0 cur w hg (by rw [hl]; simpa using hfit) (fun v hv' => by obtain ⟨i, hi, rfl⟩ := zjq hv'; exact h1 i hi)
 cases n with
 | zero =>
   refine ⟨w, by simp [Builtin.clear_, run_underlying ht], ?_, ⟨rfl, rfl, rfl, Nat.le_refl _, fun _ _ _ => rfl⟩⟩; have h0 : (Builtin.zeroCells z.cells 0).toList = [] := List.eq_nil_of_length_eq_zero (by rw [zbm]; simp); rw [h0, hg]; simp
 | succ m =>
   refine ⟨w.setRow g (cur.toList.take o ++ (Builtin.zeroCells z.cells (m + 1)).toList ++ cur.toList.drop (o + (m + 1) * z.cells.size)).toArray, ?_, setRow_heap w g cur _ et _ hg, ⟨rfl, rfl, rfl, by simp, fun k _ hk => setRow_other w g k _ (fun e => hk (by rw [e]))⟩⟩; rw [hl] at hst; simp [Builtin.clear_, run_underlying ht, hv, hst]
theorem SlF.cleared {α : Type} {f : α → List Value} {w w' : World} {e sz g o cap : Nat} {L : List α} (hf : ∀ x, (f x).length = sz) (h : SlF w e sz f (.slice (some ⟨g, o, none⟩) L.length cap) L) (k : Nat) (hk : k ≤ L.length)
 (cur : Array Value) (hg : w.heap[g]? = some (.cells cur e (0, 0))) (zs : List Value) (hz : zs.length = (L.length - k) * sz)
 (hg' : w'.heap[g]? = some (.cells (cur.toList.take (o + k * sz) ++ zs ++ cur.toList.drop (o + k * sz + (L.length - k) * sz)).toArray e (0, 0))) :
 SlF w' e sz f (.slice (some ⟨g, o, none⟩) k cap) (L.take k) := by
 have hlen : (L.take k).length = k := by simp; omega
 unfold SlF; rw [hlen]; refine ⟨by rw [zan hf, hlen], ?_⟩; rcases h.2 with ⟨h0, _⟩ | ⟨g', o', cap', cur', hv, hc, h1, h2, h3, h4⟩
 · cases h0
 · cases hv
   rw [hg] at hc; cases hc
   have hL : L.length * sz ≤ cap * sz := Nat.mul_le_mul_right _ h1; have hkm : k * sz + (L.length - k) * sz = L.length * sz := (by rw [← Nat.add_mul]; congr 1; omega); have hcl : cur.toList.length = cur.size := (by simp); refine .inr ⟨g, o, cap, _, rfl, hg', by omega, h2, ?_, ?_⟩
   · simp only [List.size_toArray, List.length_append, List.length_take, List.length_drop, hz, hcl]
     omega
   · rw [← zdm hf, ← h4]
     simp only [List.append_assoc]; rw [List.drop_append_of_le_length (by rw [List.length_take]; omega), List.take_append_of_le_length (by rw [List.length_drop, List.length_take]; omega), List.drop_take, List.take_take, List.take_take]
     congr 1
     have : k * sz ≤ L.length * sz := Nat.mul_le_mul_right _ hk; omega
set_option maxRecDepth 100000
def layEv (w : World) (g o : Nat) (y : Ev) : World := (((((((((((((w.setCell ⟨g, o, none⟩ (.int .i64 y.kind)).setCell ⟨g, o + 1, none⟩ (.string y.kv.key)).setCell ⟨g, o + 2, none⟩ (.string y.kv.value)).setCell ⟨g, o + 3, none⟩ (.int .i64 y.kv.create)).setCell ⟨g, o + 4, none⟩ (.int .i64 y.kv.mod)).setCell ⟨g, o + 5, none⟩ (.int .i64 y.kv.version)).setCell ⟨g, o + 6, none⟩ (.int .i64 y.kv.lease)).setCell ⟨g, o + 7, none⟩ (.string y.prev.key)).setCell ⟨g, o + 8, none⟩ (.string y.prev.value)).setCell ⟨g, o + 9, none⟩ (.int .i64 y.prev.create)).setCell ⟨g, o + 10, none⟩ (.int .i64 y.prev.mod)).setCell ⟨g, o + 11, none⟩ (.int .i64 y.prev.version)).setCell ⟨g, o + 12, none⟩ (.int .i64 y.prev.lease))
theorem zpl {w : World} {g o cap : Nat} {L : List Ev} (h : SlF w 101 13 evC (.slice (some ⟨g, o, none⟩) L.length cap) L) (i : Nat) {x : Ev} (hx : L[i]? = some x) (y : Ev) :
 SlF (layEv w g (o + i * 13) y) 101 13 evC (.slice (some ⟨g, o, none⟩) L.length cap) (L.set i y) := by
 have hi := (List.getElem?_eq_some_iff.1 hx).1
 have step : ∀ {w : World} {M : List Ev} {z : Ev} (j : Nat) (u : Value) (z' : Ev), j < 13 → M.length = L.length → SlF w 101 13 evC (.slice (some ⟨g, o, none⟩) L.length cap) M → M[i]? = some z → evC z' = (evC z).set j u →
  SlF (w.setCell ⟨g, o + i * 13 + j, none⟩ u) 101 13 evC (.slice (some ⟨g, o, none⟩) L.length cap) (M.set i z') := by
  intro w M z j u z' hj hM hs hz he; rw [← hM] at hs ⊢
  exact hs.set zab i j hj z z' u hz he
 have s0 := step (z := (⟨x.kind, ⟨x.kv.key, x.kv.value, x.kv.create, x.kv.mod, x.kv.version, x.kv.lease⟩, ⟨x.prev.key, x.prev.value, x.prev.create, x.prev.mod, x.prev.version, x.prev.lease⟩⟩ : Ev)) 0 (.int .i64 y.kind) (⟨y.kind, ⟨x.kv.key, x.kv.value, x.kv.create, x.kv.mod, x.kv.version, x.kv.lease⟩, ⟨x.prev.key, x.prev.value, x.prev.create, x.prev.mod, x.prev.version, x.prev.lease⟩⟩ : Ev) (by omega) rfl h hx rfl; have s1 := step (z := (⟨y.kind, ⟨x.kv.key, x.kv.value, x.kv.create, x.kv.mod, x.kv.version, x.kv.lease⟩, ⟨x.prev.key, x.prev.value, x.prev.create, x.prev.mod, x.prev.version, x.prev.lease⟩⟩ : Ev)) 1 (.string y.kv.key) (⟨y.kind, ⟨y.kv.key, x.kv.value, x.kv.create, x.kv.mod, x.kv.version, x.kv.lease⟩, ⟨x.prev.key, x.prev.value, x.prev.create, x.prev.mod, x.prev.version, x.prev.lease⟩⟩ : Ev) (by omega) (by simp) s0 (by simp [hi]) rfl
 have s2 := step (z := (⟨y.kind, ⟨y.kv.key, x.kv.value, x.kv.create, x.kv.mod, x.kv.version, x.kv.lease⟩, ⟨x.prev.key, x.prev.value, x.prev.create, x.prev.mod, x.prev.version, x.prev.lease⟩⟩ : Ev)) 2 (.string y.kv.value) (⟨y.kind, ⟨y.kv.key, y.kv.value, x.kv.create, x.kv.mod, x.kv.version, x.kv.lease⟩, ⟨x.prev.key, x.prev.value, x.prev.create, x.prev.mod, x.prev.version, x.prev.lease⟩⟩ : Ev) (by omega) (by simp) s1 (by simp [hi]) rfl; have s3 := step (z := (⟨y.kind, ⟨y.kv.key, y.kv.value, x.kv.create, x.kv.mod, x.kv.version, x.kv.lease⟩, ⟨x.prev.key, x.prev.value, x.prev.create, x.prev.mod, x.prev.version, x.prev.lease⟩⟩ : Ev)) 3 (.int .i64 y.kv.create) (⟨y.kind, ⟨y.kv.key, y.kv.value, y.kv.create, x.kv.mod, x.kv.version, x.kv.lease⟩, ⟨x.prev.key, x.prev.value, x.prev.create, x.prev.mod, x.prev.version, x.prev.lease⟩⟩ : Ev) (by omega) (by simp) s2 (by simp [hi]) rfl
 have s4 := step (z := (⟨y.kind, ⟨y.kv.key, y.kv.value, y.kv.create, x.kv.mod, x.kv.version, x.kv.lease⟩, ⟨x.prev.key, x.prev.value, x.prev.create, x.prev.mod, x.prev.version, x.prev.lease⟩⟩ : Ev)) 4 (.int .i64 y.kv.mod) (⟨y.kind, ⟨y.kv.key, y.kv.value, y.kv.create, y.kv.mod, x.kv.version, x.kv.lease⟩, ⟨x.prev.key, x.prev.value, x.prev.create, x.prev.mod, x.prev.version, x.prev.lease⟩⟩ : Ev) (by omega) (by simp) s3 (by simp [hi]) rfl; have s5 := step (z := (⟨y.kind, ⟨y.kv.key, y.kv.value, y.kv.create, y.kv.mod, x.kv.version, x.kv.lease⟩, ⟨x.prev.key, x.prev.value, x.prev.create, x.prev.mod, x.prev.version, x.prev.lease⟩⟩ : Ev)) 5 (.int .i64 y.kv.version) (⟨y.kind, ⟨y.kv.key, y.kv.value, y.kv.create, y.kv.mod, y.kv.version, x.kv.lease⟩, ⟨x.prev.key, x.prev.value, x.prev.create, x.prev.mod, x.prev.version, x.prev.lease⟩⟩ : Ev) (by omega) (by simp) s4 (by simp [hi]) rfl
 have s6 := step (z := (⟨y.kind, ⟨y.kv.key, y.kv.value, y.kv.create, y.kv.mod, y.kv.version, x.kv.lease⟩, ⟨x.prev.key, x.prev.value, x.prev.create, x.prev.mod, x.prev.version, x.prev.lease⟩⟩ : Ev)) 6 (.int .i64 y.kv.lease) (⟨y.kind, ⟨y.kv.key, y.kv.value, y.kv.create, y.kv.mod, y.kv.version, y.kv.lease⟩, ⟨x.prev.key, x.prev.value, x.prev.create, x.prev.mod, x.prev.version, x.prev.lease⟩⟩ : Ev) (by omega) (by simp) s5 (by simp [hi]) rfl; have s7 := step (z := (⟨y.kind, ⟨y.kv.key, y.kv.value, y.kv.create, y.kv.mod, y.kv.version, y.kv.lease⟩, ⟨x.prev.key, x.prev.value, x.prev.create, x.prev.mod, x.prev.version, x.prev.lease⟩⟩ : Ev)) 7 (.string y.prev.key) (⟨y.kind, ⟨y.kv.key, y.kv.value, y.kv.create, y.kv.mod, y.kv.version, y.kv.lease⟩, ⟨y.prev.key, x.prev.value, x.prev.create, x.prev.mod, x.prev.version, x.prev.lease⟩⟩ : Ev) (by omega) (by simp) s6 (by simp [hi]) rfl
 have s8 := step (z := (⟨y.kind, ⟨y.kv.key, y.kv.value, y.kv.create, y.kv.mod, y.kv.version, y.kv.lease⟩, ⟨y.prev.key, x.prev.value, x.prev.create, x.prev.mod, x.prev.version, x.prev.lease⟩⟩ : Ev)) 8 (.string y.prev.value) (⟨y.kind, ⟨y.kv.key, y.kv.value, y.kv.create, y.kv.mod, y.kv.version, y.kv.lease⟩, ⟨y.prev.key, y.prev.value, x.prev.create, x.prev.mod, x.prev.version, x.prev.lease⟩⟩ : Ev) (by omega) (by simp) s7 (by simp [hi]) rfl; have s9 := step (z := (⟨y.kind, ⟨y.kv.key, y.kv.value, y.kv.create, y.kv.mod, y.kv.version, y.kv.lease⟩, ⟨y.prev.key, y.prev.value, x.prev.create, x.prev.mod, x.prev.version, x.prev.lease⟩⟩ : Ev)) 9 (.int .i64 y.prev.create) (⟨y.kind, ⟨y.kv.key, y.kv.value, y.kv.create, y.kv.mod, y.kv.version, y.kv.lease⟩, ⟨y.prev.key, y.prev.value, y.prev.create, x.prev.mod, x.prev.version, x.prev.lease⟩⟩ : Ev) (by omega) (by simp) s8 (by simp [hi]) rfl
 have s10 := step (z := (⟨y.kind, ⟨y.kv.key, y.kv.value, y.kv.create, y.kv.mod, y.kv.version, y.kv.lease⟩, ⟨y.prev.key, y.prev.value, y.prev.create, x.prev.mod, x.prev.version, x.prev.lease⟩⟩ : Ev)) 10 (.int .i64 y.prev.mod) (⟨y.kind, ⟨y.kv.key, y.kv.value, y.kv.create, y.kv.mod, y.kv.version, y.kv.lease⟩, ⟨y.prev.key, y.prev.value, y.prev.create, y.prev.mod, x.prev.version, x.prev.lease⟩⟩ : Ev) (by omega) (by simp) s9 (by simp [hi]) rfl; have s11 := step (z := (⟨y.kind, ⟨y.kv.key, y.kv.value, y.kv.create, y.kv.mod, y.kv.version, y.kv.lease⟩, ⟨y.prev.key, y.prev.value, y.prev.create, y.prev.mod, x.prev.version, x.prev.lease⟩⟩ : Ev)) 11 (.int .i64 y.prev.version) (⟨y.kind, ⟨y.kv.key, y.kv.value, y.kv.create, y.kv.mod, y.kv.version, y.kv.lease⟩, ⟨y.prev.key, y.prev.value, y.prev.create, y.prev.mod, y.prev.version, x.prev.lease⟩⟩ : Ev) (by omega) (by simp) s10 (by simp [hi]) rfl
 have s12 := step (z := (⟨y.kind, ⟨y.kv.key, y.kv.value, y.kv.create, y.kv.mod, y.kv.version, y.kv.lease⟩, ⟨y.prev.key, y.prev.value, y.prev.create, y.prev.mod, y.prev.version, x.prev.lease⟩⟩ : Ev)) 12 (.int .i64 y.prev.lease) (⟨y.kind, ⟨y.kv.key, y.kv.value, y.kv.create, y.kv.mod, y.kv.version, y.kv.lease⟩, ⟨y.prev.key, y.prev.value, y.prev.create, y.prev.mod, y.prev.version, y.prev.lease⟩⟩ : Ev) (by omega) (by simp) s11 (by simp [hi]) rfl; simpa [layEv, List.set_set] using s12
theorem zpm {S : Nat → Prop} {a w : World} (h : Fr S a w) (g o : Nat) (y : Ev) (hg : S g) : Fr S a (layEv w g o y) := by
 unfold layEv; exact ((((((((((((h.setCell (.inl hg) _).setCell (.inl hg) _).setCell (.inl hg) _).setCell (.inl hg) _).setCell (.inl hg) _).setCell (.inl hg) _).setCell (.inl hg) _).setCell (.inl hg) _).setCell (.inl hg) _).setCell (.inl hg) _).setCell (.inl hg) _).setCell (.inl hg) _).setCell (.inl hg) _
theorem zti {L : List Ev} {u : Value} (h : u ∈ L.flatMap evC) : u.oneCell' = true := by
 obtain ⟨x, _, hx⟩ := List.mem_flatMap.1 h; simp only [evC, kvC, List.mem_cons, List.mem_append, List.not_mem_nil, or_false] at hx; rcases hx with h | (h | h | h | h | h | h) | (h | h | h | h | h | h) <;> rw [h] <;> rfl
set_option maxHeartbeats 2000000 in
theorem zgi (w : World) (v : Value) (L : List Ev) (hv : SlF w 101 13 evC v L) (hp : 0 < L.length) (hl : L.length ≤ 1099511627) :
 Calls Tryz.prog 99 #[v] w fun e w' => ∃ g o cap, e = .returned (.slice (some ⟨g, o, none⟩) L.length cap) ∧ SlF w' 101 13 evC (.slice (some ⟨g, o, none⟩) L.length cap) L ∧ Fr No w w' ∧ w.heap.size ≤ g := by
 obtain ⟨a, vcap, rfl, hc1, hc2, ha⟩ := hv.shape; obtain ⟨gb, go, rfl⟩ := ha hp; obtain ⟨i0, hi0, hz0, hz1, hz2⟩ := info_parts info73; have hne : 0 < (L.flatMap evC).length := by rw [zan zab]; omega
 have hnews : ∀ j u, (L.flatMap evC)[j]? = some u → (w.alloc (Obj.cells #[] 101)).cell? ((⟨gb, go, none⟩ : Addr).add j) = some u := by
  intro j u hu; have := (hv.alloc (Obj.cells #[] 101)).1; have h1 := Sl.cell (hv.alloc (Obj.cells #[] 101)) j hu; have : (⟨gb, go, none⟩ : Addr).add j = ⟨gb, go + j, none⟩ := (by unfold Addr.add; split <;> simp_all); rw [this]; exact h1
 have hsl0 : Sl (w.alloc (Obj.cells #[] 101)) 101 13 (.slice (some ⟨w.heap.size, 0, none⟩) 0 0) 0 [] := ⟨by simp, .inr ⟨w.heap.size, 0, 0, #[], rfl, zad _ _ _ rfl, by omega, by decide, by simp, by simp⟩⟩; have HN := H_ hnews; have HS0 := H_ hsl0; have HV := H_ hv; have heq := fun w => Go.Lib.run_eql_slice_nil (P := Tryz.prog) w 28 101 (some ⟨gb, go, none⟩) L.length vcap 0 0 Tryz.underlying28; clear hnews hsl0 hv ha; go_enter Tryz.func99, Tryz.ntmps99; go_wp2_with (at_builtin; refine zei rfl _ _ 28 rfl 101 i0 _ 13 136 Tryz.underlying28 hi0 hz0 hz1 hz2 rfl (by decide) _ 0 [] rfl HS0.out ⟨gb, go, none⟩ L.length vcap (L.flatMap evC) rfl (zan zab L) hp HN.out (fun u hu => zti hu) ?c1 ?c2 ?_)
 case c1 => unfold maxLen; omega
 case c2 => omega
 intro g o cap w' hs hg hb hlt; go_wp2; go_ret; have hf : Fr No w w' := (((Fr.refl No w).alloc (Obj.cells #[] 101)).mono (T := fun b => b = w.heap.size) fun _ _ h => h.elim).grown hg (fun k hk => .inr (by simp [Value.ownBlock] at hk; omega)) |>.trans (Fr.refl No w') (fun _ _ h => h.elim) |> fun h => ⟨h.os, h.tape, h.output, h.size, fun j hj hn => h.block j hj (fun e => by have e' : j = w.heap.size := e; omega)⟩; refine ⟨g, o, cap, rfl, hs, hf, ?_⟩; rcases hb with h | h
 · simp [Value.ownBlock] at h; omega
 · have : g = w.heap.size + 1 := by simpa using h
   omega
theorem zlu (w : World) (x : Ev) (rb : Nat) (rev : Int) (hb : w.cell? ⟨rb, 0, none⟩ = some (.int .i64 rev)) : Calls Tryz.prog 101 #[evV x, .pointer (some ⟨rb, 0, none⟩)] w fun e w' => e = .returned (.bool (decide (x.kv.mod < rev))) ∧ Fr No w w' := by
 obtain ⟨x0, ⟨x1, x2, x3, x4, x5, x6⟩, ⟨x7, x8, x9, x10, x11, x12⟩⟩ := x; unfold evV; dsimp only; have hlt := World.block_lt_of_cell? _ _ hb; go_enter Tryz.func101, Tryz.ntmps101; go_wp2; go_ret; exact ⟨rfl, (Fr.refl No w).alloc _⟩
def oldB (rev : Int) (x : Ev) : Bool := decide (x.kv.mod < rev)
def idxEv (P : Ev → Bool) (l : List Ev) : Int := if l.findIdx P = l.length then -1 else (l.findIdx P : Int)
set_option maxHeartbeats 2000000 in
theorem zkf (w : World) (v : Value) (l : List Ev) (rb : Nat) (rev : Int) (hb : w.cell? ⟨rb, 0, none⟩ = some (.int .i64 rev)) (hv : SlF w 101 13 evC v l) (hl : l.length ≤ 1099511627) :
 Calls Tryz.prog 144 #[v, .func (.func 101) #[] #[.pointer (some ⟨rb, 0, none⟩)]] w fun e w' => e = .returned (.int .i64 (idxEv (oldB rev) l)) ∧ Fr No w w' := by
 obtain ⟨a, cap, rfl, hc1, hc2, ha⟩ := hv.shape; have HV := H_ hv; clear hv; have HA := H_ ha; clear ha; have HB := H_ hb; clear hb; go_enter Tryz.func144, Tryz.ntmps144; go_wp2
 go_loopg [8] l.length (fun g s8 wr => ∃ i : Nat, s8 = .int .i64 i ∧ i + g = l.length ∧ Hid (∀ j, j < i → ∀ p, l[j]? = some p → oldB rev p = false) ∧ Hid (Fr No w wr))
 case atStart => exact ⟨0, rfl, by simp, H_ (by simp), H_ (Fr.refl No w)⟩
 case round =>
  obtain ⟨i, rfl, hi, HJ, HF⟩ := hrel
  cases gk with
  | zero =>
    have hil : ¬ (i : Int) < (l.length : Int) := (by omega); go_wp2; go_ret; refine ⟨?_, HF.out⟩
    have hu : l.findIdx (oldB rev) = l.length := by
     rw [List.findIdx_eq_length]; intro x hx; obtain ⟨j, hj, rfl⟩ := List.getElem_of_mem hx; exact HJ.out j (by omega) _ (List.getElem?_eq_getElem hj)
    unfold idxEv; rw [if_pos hu]
    rfl
  | succ g =>
    obtain ⟨gb, go, rfl⟩ := HA.out (by omega); obtain ⟨p, hx⟩ : ∃ p, l[i]? = some p := ⟨_, List.getElem?_eq_getElem (by omega)⟩; have hvr := HV.out.fr0 HF.out; have x0 := hvr.cell0 zab i hx rfl; have x1 := hvr.cell zab i 1 hx rfl; have x2 := hvr.cell zab i 2 hx rfl; have x3 := hvr.cell zab i 3 hx rfl; have x4 := hvr.cell zab i 4 hx rfl; have x5 := hvr.cell zab i 5 hx rfl; have x6 := hvr.cell zab i 6 hx rfl; have x7 := hvr.cell zab i 7 hx rfl; have x8 := hvr.cell zab i 8 hx rfl; have x9 := hvr.cell zab i 9 hx rfl; have x10 := hvr.cell zab i 10 hx rfl; have x11 := hvr.cell zab i 11 hx rfl; have x12 := hvr.cell zab i 12 hx rfl; have hil : (i : Int) < (l.length : Int) := (by omega); have hcl := zlu wr p rb rev (HF.out.cell0 HB.out); have hob : decide (p.kv.mod < rev) = oldB rev p := rfl; rw [hob] at hcl; unfold evV at hcl; have Hx := H_ hx; clear hx hvr hob
    generalize hp : oldB rev p = q at *; have Hp := H_ hp; clear hp; cases q
    · go_wp2_with (go_at_call 101; refine hcl.mono ?_; rintro e w1 ⟨rfl, hf⟩)
      go_roundg g
      case rel => exact ⟨i + 1, by go_num, by omega, H_ (fun j hj q hq => by
       by_cases hji : j = i
       · subst hji; rw [Hx.out] at hq; cases hq; exact Hp.out
       · exact HJ.out j (by omega) q hq), H_ (HF.out.trans0 hf)⟩
      case measure => omega
    · go_wp2_with (go_at_call 101; refine hcl.mono ?_; rintro e w1 ⟨rfl, hf⟩)
      go_ret; refine ⟨?_, HF.out.trans0 hf⟩
      have hu : l.findIdx (oldB rev) = i := by
       have hil' : i < l.length := (by omega); rw [List.findIdx_eq hil']; have hgi : l[i] = p := (List.getElem?_eq_some_iff.1 Hx.out).2; refine ⟨by rw [hgi]; exact Hp.out, fun j hj => ?_⟩; exact HJ.out j hj _ (List.getElem?_eq_getElem (by omega))
      unfold idxEv; rw [hu, if_neg (by omega)]
      rfl
end Go.Proofs.YthljnnjpmdgkoaaGreat