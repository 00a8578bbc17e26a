/- The names of segments in plain terms: ten digits, one-to-one, rising. No program is run. -/
import Derived.Test.YtillejdjghlicaaGreatDoorLogO
import Derived.Test.YtillejdjghlicaaGreatDoorDskN
import Derived.Lib.ItoaNum
import Derived.Lib.Atoi
import Derived.Lib.Repeat
import Derived.Lib.SlTrimSet
namespace Go.Proofs.YtillejdjghlicaaGreatDoor
open Go Go.Proofs Go.RowKit

/-- A number's last k digits. -/
def digs : Nat → Nat → List UInt8
  | 0, _ => []
  | k + 1, n => digs k (n / 10) ++ [UInt8.ofNat (48 + n % 10)]
theorem digs_length : ∀ k n, (digs k n).length = k
  | 0, _ => rfl
  | k + 1, n => by
    unfold digs
    rw [List.length_append, digs_length k]
    rfl
theorem digs_zero : ∀ k, digs k 0 = Lib.repeatL [48] k
  | 0 => rfl
  | k + 1 => by
    show digs k 0 ++ [48] = _
    rw [digs_zero k]
    exact (Lib.repeatL_add [48] k 1).symm
theorem digs_pad : ∀ (k n : Nat), 0 < k → n < 10 ^ k → Lib.repeatL [48] (k - Lib.nDigits n) ++ Lib.decDigits n = digs k n
  | 0, _, h, _ => absurd h (Nat.lt_irrefl 0)
  | k + 1, n, _, hn => by
    by_cases h : n < 10
    · rw [Lib.nDigits_small h, Lib.decDigits_one h]
      unfold digs
      rw [show n / 10 = 0 by omega, digs_zero, show n % 10 = n by omega]
      rfl
    · have h2 : Lib.decDigits n = Lib.decDigits (n / 10) ++ [UInt8.ofNat (48 + n % 10)] := by
        rw [Lib.decDigits, dif_neg h]
      have hk : 0 < k := by
        rcases Nat.eq_zero_or_pos k with rfl | hk
        · simp at hn; omega
        · exact hk
      rw [Lib.nDigits_big h, h2, show k + 1 - (Lib.nDigits (n / 10) + 1) = k - Lib.nDigits (n / 10) by omega, ← List.append_assoc, digs_pad k (n / 10) hk (by rw [Nat.pow_succ] at hn; omega)]
      rfl
theorem decFrom_append : ∀ (a b : List UInt8) (acc : Nat), Lib.decFrom acc (a ++ b) = (Lib.decFrom acc a).bind fun m => Lib.decFrom m b
  | [], b, acc => rfl
  | x :: a, b, acc => by
    rw [List.cons_append]
    show (match Lib.digitVal x with | some d => Lib.decFrom (acc * 10 + d) (a ++ b) | none => none) = (match Lib.digitVal x with | some d => Lib.decFrom (acc * 10 + d) a | none => none).bind fun m => Lib.decFrom m b
    cases Lib.digitVal x with
    | none => rfl
    | some d => exact decFrom_append a b _
theorem digit_fin : ∀ i : Fin 10, Lib.digitVal (UInt8.ofNat (48 + i.val)) = some i.val ∧ ([48, 49, 50, 51, 52, 53, 54, 55, 56, 57] : List UInt8).contains (UInt8.ofNat (48 + i.val)) = true := by decide +kernel
theorem digs_val : ∀ (k n acc : Nat), n < 10 ^ k → Lib.decFrom acc (digs k n) = some (acc * 10 ^ k + n)
  | 0, n, acc, h => by
    simp at h
    subst h
    simp [digs, Lib.decFrom]
  | k + 1, n, acc, h => by
    unfold digs
    rw [decFrom_append, digs_val k (n / 10) acc (by rw [Nat.pow_succ] at h; omega)]
    have hd := (digit_fin ⟨n % 10, Nat.mod_lt _ (by decide)⟩).1
    dsimp only at hd
    simp only [Option.bind_some, Lib.decFrom, hd]
    rw [Nat.pow_succ, ← Nat.mul_assoc]
    congr 1
    omega
theorem digs_digit : ∀ (k n : Nat), ∀ b ∈ digs k n, ∃ i : Fin 10, b = UInt8.ofNat (48 + i.val)
  | 0, _, b, hb => by cases hb
  | k + 1, n, b, hb => by
    unfold digs at hb
    rcases List.mem_append.1 hb with hb | hb
    · exact digs_digit k _ b hb
    · rw [List.mem_singleton] at hb
      exact ⟨⟨n % 10, Nat.mod_lt _ (by decide)⟩, hb⟩
theorem dropWhile_all {α : Type} (p : α → Bool) : ∀ l : List α, (∀ b ∈ l, p b = true) → l.dropWhile p = []
  | [], _ => rfl
  | a :: l, h => by
    rw [List.dropWhile_cons, if_pos (h a (List.mem_cons_self ..))]
    exact dropWhile_all p l fun b hb => h b (List.mem_cons_of_mem _ hb)
theorem digs_trim (k n : Nat) : Lib.trimS (digs k n) [48, 49, 50, 51, 52, 53, 54, 55, 56, 57] = [] := by
  unfold Lib.trimS Lib.trimRightS Lib.trimLeftS
  have : (digs k n).reverse.dropWhile (([48, 49, 50, 51, 52, 53, 54, 55, 56, 57] : List UInt8).contains ·) = [] := by
    have hall : ∀ b ∈ (digs k n).reverse, ([48, 49, 50, 51, 52, 53, 54, 55, 56, 57] : List UInt8).contains b = true := fun b hb => by
      obtain ⟨i, rfl⟩ := digs_digit k n b (List.mem_reverse.1 hb)
      exact (digit_fin i).2
    exact dropWhile_all _ _ hall
  rw [this]
  rfl
theorem digs_atoi {k n : Nat} (hk : 0 < k) (hn : n < 10 ^ k) : Lib.atoi (digs k n) = some (n : Int) := by
  have hv := digs_val k n 0 hn
  rw [Nat.zero_mul, Nat.zero_add] at hv
  have hd := digs_digit k n
  have hl := digs_length k n
  generalize digs k n = l at *
  match l, hl, hd, hv with
  | [], hl, _, _ => simp at hl; omega
  | b :: r, _, hd, hv =>
    obtain ⟨i, hi⟩ := hd b (List.mem_cons_self ..)
    have hb : ∀ i : Fin 10, (UInt8.ofNat (48 + i.val) == 45) = false ∧ (UInt8.ofNat (48 + i.val) == 43) = false := by decide +kernel
    have h1 := (hb i).1
    have h2 := (hb i).2
    rw [← hi] at h1 h2
    show (if (b == 45) = true then (Lib.decNat r).map (fun (m : Nat) => -(m : Int)) else if (b == 43) = true then (Lib.decNat r).map (fun (m : Nat) => (m : Int)) else (Lib.decNat (b :: r)).map fun (m : Nat) => (m : Int)) = _
    rw [h1, h2, if_neg (by simp), if_neg (by simp)]
    unfold Lib.decNat
    rw [if_neg (by simp), hv]
    rfl
theorem digs_inj {k n m : Nat} (hn : n < 10 ^ k) (hm : m < 10 ^ k) (h : digs k n = digs k m) : n = m := by
  have h1 := digs_val k n 0 hn
  rw [h, digs_val k m 0 hm] at h1
  simpa using h1.symm
theorem lt_append {a b : List UInt8} : a.length = b.length → a < b → ∀ x y : List UInt8, a ++ x < b ++ y := by
  induction a generalizing b with
  | nil =>
    intro hl h x y
    cases b with
    | nil => exact absurd h (by simp)
    | cons c b => simp at hl
  | cons c a ih =>
    intro hl h x y
    cases b with
    | nil => simp at hl
    | cons e b =>
      rw [List.cons_lt_cons_iff] at h
      rw [List.cons_append, List.cons_append, List.cons_lt_cons_iff]
      rcases h with h | ⟨h1, h2⟩
      · exact .inl h
      · exact .inr ⟨h1, ih (by simpa using hl) h2 x y⟩
theorem append_lt (a : List UInt8) {x y : List UInt8} (h : x < y) : a ++ x < a ++ y := by
  induction a with
  | nil => exact h
  | cons c a ih =>
    rw [List.cons_append, List.cons_append, List.cons_lt_cons_iff]
    exact .inr ⟨rfl, ih⟩
theorem digit_lt : ∀ i j : Fin 10, i < j → UInt8.ofNat (48 + i.val) < UInt8.ofNat (48 + j.val) := by decide +kernel
theorem digs_lt : ∀ (k n m : Nat), n < m → m < 10 ^ k → digs k n < digs k m
  | 0, n, m, h, hm => by simp at hm; omega
  | k + 1, n, m, h, hm => by
    unfold digs
    rw [Nat.pow_succ] at hm
    by_cases h1 : n / 10 < m / 10
    · exact lt_append (by rw [digs_length, digs_length]) (digs_lt k _ _ h1 (by omega)) _ _
    · rw [show n / 10 = m / 10 by omega]
      refine append_lt _ ?_
      rw [List.cons_lt_cons_iff]
      exact .inl (digit_lt ⟨n % 10, by omega⟩ ⟨m % 10, by omega⟩ (by show n % 10 < m % 10; omega))
/-- A segment's name. -/
def segL (i : Nat) : List UInt8 := [119, 97, 108, 45] ++ (if i < 10000000000 then digs 10 i else List.replicate i 0)
def segB (i : Nat) : ByteArray := ⟨(segL i).toArray⟩
theorem txt_segB (i : Nat) : txt (segB i) = segL i := by simp [txt, segB]
theorem segL_small {i : Nat} (h : i < 10000000000) : segL i = [119, 97, 108, 45] ++ digs 10 i := by
  unfold segL
  rw [if_pos h]
theorem segL_inj {i j : Nat} (h : segL i = segL j) : i = j := by
  unfold segL at h
  have h := List.append_cancel_left h
  have hlen := congrArg List.length h
  by_cases hi : i < 10000000000
  · by_cases hj : j < 10000000000
    · rw [if_pos hi, if_pos hj] at h
      exact digs_inj (by simpa using hi) (by simpa using hj) h
    · rw [if_pos hi, if_neg hj, digs_length, List.length_replicate] at hlen
      omega
  · by_cases hj : j < 10000000000
    · rw [if_neg hi, if_pos hj, digs_length, List.length_replicate] at hlen
      omega
    · rw [if_neg hi, if_neg hj, List.length_replicate, List.length_replicate] at hlen
      exact hlen
theorem segB_inj {i j : Nat} (h : segB i = segB j) : i = j := segL_inj (by rw [← txt_segB, h, txt_segB])
theorem segB_size {i : Nat} (h : i < 10000000000) : (segB i).size = 14 := by
  rw [Lib.size_eq]
  show (txt (segB i)).length = 14
  rw [txt_segB, segL_small h, List.length_append, digs_length]
  rfl
theorem segL_lt {i j : Nat} (h : i < j) (hj : j < 10000000000) : segL i < segL j := by
  rw [segL_small (by omega), segL_small hj]
  exact append_lt _ (digs_lt 10 i j h (by simpa using hj))
/-- A text of bytes. -/
def toB (l : List UInt8) : ByteArray := ⟨l.toArray⟩
theorem txt_toB (l : List UInt8) : txt (toB l) = l := by simp [txt, toB]
theorem toB_txt (b : ByteArray) : toB (txt b) = b := by cases b; simp [txt, toB]
theorem toB_size (l : List UInt8) : (toB l).size = l.length := by
  rw [Lib.size_eq]
  show (txt (toB l)).length = _
  rw [txt_toB]
/-- A disk's files by their names. -/
def fOf (l : List Fi) : ByteArray → Option (ByteArray × Int) := fun n => (l.find? fun g => decide (segB g.num = n)).map fun g => (toB g.data, (g.syn : Int))
theorem find_seg (l : List Fi) (n : Nat) : (l.find? fun g => decide (segB g.num = segB n)) = getF l n := by
  unfold getF
  congr 1
  funext g
  by_cases h : g.num = n
  · rw [h]; simp
  · have : segB g.num ≠ segB n := fun e => h (segB_inj e)
    simp [h, this]
theorem fOf_at (l : List Fi) (n : Nat) : fOf l (segB n) = (getF l n).map fun g => (toB g.data, (g.syn : Int)) := by
  unfold fOf
  rw [find_seg]
theorem fOf_nil : fOf [] = noD := rfl
theorem getF_put (l : List Fi) (f : Fi) (k : Nat) : getF (putF l f) k = if f.num = k then some f else getF l k := by
  induction l with
  | nil =>
    unfold putF getF
    by_cases h : f.num = k <;> simp [h]
  | cons g l ih =>
    unfold putF
    by_cases h1 : g.num < f.num
    · rw [if_pos h1]
      unfold getF at ih ⊢
      rw [List.find?_cons, List.find?_cons, ih]
      by_cases h2 : g.num = k
      · have : (g.num == k) = true := by simpa using h2
        rw [this]
        show some g = _
        rw [if_neg (show ¬ f.num = k by omega)]

      · have : (g.num == k) = false := by simpa using h2
        rw [this]
    · rw [if_neg h1]
      by_cases h2 : g.num = f.num
      · rw [if_pos h2]
        unfold getF
        rw [List.find?_cons, List.find?_cons]
        by_cases h3 : f.num = k
        · have : (f.num == k) = true := by simpa using h3
          rw [this, if_pos h3]
        · have e1 : (f.num == k) = false := by simpa using h3
          have e2 : (g.num == k) = false := by rw [h2]; exact e1
          rw [e1, e2, if_neg h3]
      · rw [if_neg h2]
        unfold getF
        rw [List.find?_cons]
        by_cases h3 : f.num = k
        · have : (f.num == k) = true := by simpa using h3
          rw [this, if_pos h3]
        · have e1 : (f.num == k) = false := by simpa using h3
          rw [e1, if_neg h3]
theorem putF_mem {l : List Fi} {f g : Fi} (h : g ∈ putF l f) : g = f ∨ g ∈ l := by
  induction l with
  | nil => exact .inl (List.mem_singleton.1 h)
  | cons a l ih =>
    unfold putF at h
    split at h
    · rcases List.mem_cons.1 h with h | h
      · exact .inr (h ▸ List.mem_cons_self ..)
      · exact (ih h).imp id fun h => List.mem_cons_of_mem _ h
    · split at h
      · rcases List.mem_cons.1 h with h | h
        · exact .inl h
        · exact .inr (List.mem_cons_of_mem _ h)
      · rcases List.mem_cons.1 h with h | h
        · exact .inl h
        · exact .inr h
theorem fOf_other {l : List Fi} {n : ByteArray} (h : ∀ k, n ≠ segB k) : fOf l n = none := by
  unfold fOf
  have : l.find? (fun g => decide (segB g.num = n)) = none := by
    rw [List.find?_eq_none]
    intro g _
    simpa using fun e => h g.num e.symm
  rw [this]
  rfl
theorem fOf_put (l : List Fi) (f : Fi) : fOf (putF l f) = setD (fOf l) (segB f.num) (toB f.data, (f.syn : Int)) := by
  funext n
  unfold setD
  by_cases hn : ∃ k, n = segB k
  · obtain ⟨k, rfl⟩ := hn
    rw [fOf_at, getF_put]
    by_cases h : f.num = k
    · rw [if_pos h, h, if_pos rfl]
      rfl
    · rw [if_neg h, if_neg fun (e : segB k = segB f.num) => h (segB_inj e).symm, fOf_at]
  · have hn' : ∀ k, n ≠ segB k := fun k e => hn ⟨k, e⟩
    rw [fOf_other hn', if_neg (hn' _), fOf_other hn']
theorem getF_del (l : List Fi) (n k : Nat) : getF (delF l n) k = if k = n then none else getF l k := by
  unfold getF delF
  rw [List.find?_filter]
  by_cases h : k = n
  · subst h
    rw [if_pos rfl, List.find?_eq_none]
    intro g _
    simp
  · rw [if_neg h]
    congr 1
    funext g
    by_cases h2 : g.num = k
    · simp [h2, h]
    · simp [h2]
theorem fOf_del (l : List Fi) (k : Nat) : fOf (delF l k) = delD (fOf l) (segB k) := by
  funext n
  unfold delD
  by_cases hn : ∃ k, n = segB k
  · obtain ⟨j, rfl⟩ := hn
    rw [fOf_at, getF_del]
    by_cases h : j = k
    · rw [if_pos h, h, if_pos rfl]
      rfl
    · rw [if_neg h, if_neg fun (e : segB j = segB k) => h (segB_inj e), fOf_at]
  · have hn' : ∀ k, n ≠ segB k := fun k e => hn ⟨k, e⟩
    rw [fOf_other hn', if_neg (hn' _), fOf_other hn']
/-- Files with rising numbers, each a segment's. -/
structure FsOk (l : List Fi) : Prop where
  asc : l.Pairwise fun a b => a.num < b.num
  rg : ∀ g ∈ l, 1 ≤ g.num ∧ g.num < 10000000000
  syn : ∀ g ∈ l, g.syn ≤ g.data.length
theorem FsOk.nil : FsOk [] := ⟨.nil, fun g hg => (by cases hg), fun g hg => (by cases hg)⟩
theorem FsOk.tail {g : Fi} {l : List Fi} (h : FsOk (g :: l)) : FsOk l := ⟨(List.pairwise_cons.1 h.asc).2, fun x hx => h.rg x (List.mem_cons_of_mem _ hx), fun x hx => h.syn x (List.mem_cons_of_mem _ hx)⟩
theorem putF_asc {l : List Fi} (h : l.Pairwise fun a b => a.num < b.num) (f : Fi) : (putF l f).Pairwise fun a b => a.num < b.num := by
  induction l with
  | nil => exact List.pairwise_singleton _ _
  | cons g l ih =>
    obtain ⟨h1, h2⟩ := List.pairwise_cons.1 h
    unfold putF
    split
    · rename_i hlt
      refine List.pairwise_cons.2 ⟨fun x hx => ?_, ih h2⟩
      rcases putF_mem hx with rfl | hx
      · exact hlt
      · exact h1 x hx
    · split
      · rename_i he
        exact List.pairwise_cons.2 ⟨fun x hx => he ▸ h1 x hx, h2⟩
      · rename_i hge hne
        refine List.pairwise_cons.2 ⟨fun x hx => ?_, h⟩
        rcases List.mem_cons.1 hx with rfl | hx
        · omega
        · have := h1 x hx
          omega
theorem FsOk.put {l : List Fi} (h : FsOk l) {f : Fi} (h1 : 1 ≤ f.num ∧ f.num < 10000000000) (h2 : f.syn ≤ f.data.length) : FsOk (putF l f) :=
  ⟨putF_asc h.asc f, fun g hg => (putF_mem hg).elim (fun e => e ▸ h1) (h.rg g), fun g hg => (putF_mem hg).elim (fun e => e ▸ h2) (h.syn g)⟩
theorem FsOk.del {l : List Fi} (h : FsOk l) (n : Nat) : FsOk (delF l n) :=
  ⟨h.asc.filter _, fun g hg => h.rg g ((List.mem_filter.1 hg).1), fun g hg => h.syn g ((List.mem_filter.1 hg).1)⟩
theorem FsOk.get {l : List Fi} (h : FsOk l) {g : Fi} (hg : g ∈ l) : getF l g.num = some g := by
  induction l with
  | nil => cases hg
  | cons a l ih =>
    obtain ⟨h1, h2⟩ := List.pairwise_cons.1 h.asc
    unfold getF
    rw [List.find?_cons]
    rcases List.mem_cons.1 hg with rfl | hg
    · simp
    · have := h1 g hg
      have e : (a.num == g.num) = false := by simp; omega
      rw [e]
      exact ih h.tail hg
theorem getF_num {l : List Fi} {n : Nat} {g : Fi} (h : getF l n = some g) : g.num = n ∧ g ∈ l := by
  unfold getF at h
  exact ⟨by simpa using List.find?_some h, List.mem_of_find?_eq_some h⟩
theorem FsOk.some {l : List Fi} (n : ByteArray) : (fOf l n).isSome = true ↔ ∃ g ∈ l, segB g.num = n := by
  unfold fOf
  rw [Option.isSome_map, List.find?_isSome]
  simp
theorem FsOk.names {l : List Fi} (h : FsOk l) (hl : l.length ≤ 1099511627776) : NamesD (fOf l) (l.map fun g => segB g.num) := by
  refine ⟨?_, fun n => ?_, ?_, by rw [List.length_map]; exact hl⟩
  · refine List.pairwise_map.2 (h.asc.imp fun {a b} hab e => ?_)
    have := segB_inj e
    omega
  · rw [FsOk.some, List.mem_map]
  · rw [List.map_map]
    refine List.pairwise_map.2 (h.asc.imp_of_mem fun {a b} ha hb hab => ?_)
    show txt (segB a.num) ≤ txt (segB b.num)
    rw [txt_segB, txt_segB]
    exact List.le_of_lt (segL_lt hab (h.rg b hb).2)
theorem FsOk.sum {l : List Fi} (h : FsOk l) (hl : l.length ≤ 1099511627776) : SumIs (fOf l) (sizeF l) := by
  have hN := h.names hl
  refine ⟨_, hN.nd, hN.mem, ?_⟩
  unfold sumD sizeF
  rw [List.map_map]
  congr 1
  refine List.map_congr_left fun g hg => ?_
  show (dataD (fOf l) (segB g.num)).size = _
  unfold dataD
  rw [fOf_at, h.get hg]
  exact toB_size _
end Go.Proofs.YtillejdjghlicaaGreatDoor
