/- Lemmas for the claim. Conditions stand in each. -/
import Derived.Test.YthljnnjpmdgkoaaGreatG00
import Derived.Test.YthljnnjpmdgkoaaGreatProg
import Derived.Laws.RangeString
import Derived.Lib.Bytealg
import Derived.Lib.RuneCount
import Derived.Lib.Strings
import Derived.Sort.Walk0
import Derived.BigQuiet
namespace Go.Proofs.YthljnnjpmdgkoaaGreat
open Go Go.Proofs Go.RowKit
set_option maxRecDepth 100000
def sign3 (s : ByteArray) : Bool := decide (3 ≤ s.size) && ((s.extract 0 3).toList == [239, 191, 189])
theorem zia (w : World) (s : ByteArray) : Calls Tryz.prog 183 #[.string s, .string ⟨#[239, 191, 189]⟩] w fun e w' => e = .returned (.bool (sign3 s)) ∧ w = w' := by
 by_cases h : 3 ≤ s.size
 · have hz : (3 : Int) ≤ (s.size : Int) := by omega
   have hd : sign3 s = ((s.extract 0 3).toList == [239, 191, 189]) := (by unfold sign3; simp [h]); rw [hd]; go_enter Tryz.func183, Tryz.ntmps183; go_wp2; go_ret; exact ⟨rfl, rfl⟩
 have hz : ¬ (3 : Int) ≤ (s.size : Int) := by omega
 have hd : sign3 s = false := (by unfold sign3; simp [h]); rw [hd]; go_enter Tryz.func183, Tryz.ntmps183; go_wp2; go_ret; exact ⟨rfl, rfl⟩
theorem zhb (w : World) (s : ByteArray) : Calls Tryz.prog 179 #[.string s, .string ⟨#[239, 191, 189]⟩] w fun e w' => e = .returned (.bool (sign3 s)) ∧ w = w' := by
 go_enter Tryz.func179, Tryz.ntmps179; go_wp2_with (go_at_call 183; refine (zia _ _).mono ?_; rintro e w' ⟨rfl, rfl⟩); go_ret; exact ⟨rfl, rfl⟩
def zej (s : ByteArray) (i : Nat) : Bool := (Utf8.decode s i).1 == 65533 && !sign3 (s.extract i s.size)
theorem zmy (w : World) (s : ByteArray) (i r : Nat) (hi : i ≤ s.size) : Calls Tryz.prog 161 #[.string s, .int .i64 i, .int .i32 r] w fun e w' => e = .returned (.bool (r == 65533 && !sign3 (s.extract i s.size))) ∧ w = w' := by
 have hiz : (i : Int) ≤ (s.size : Int) := by omega
 have h1 : ((r : Int) == 65533) = (r == 65533) := by rw [Bool.eq_iff_iff, beq_iff_eq, beq_iff_eq]; omega
 by_cases h : r = 65533
 · subst h
   go_enter Tryz.func161, Tryz.ntmps161; go_wp2_with (go_at_call 179; refine (zhb _ _).mono ?_; rintro e w' ⟨rfl, rfl⟩); go_ret; exact ⟨by simp, rfl⟩
 have h2 : (r == 65533) = false := by simpa using h
 rw [h2] at h1; go_enter Tryz.func161, Tryz.ntmps161; go_wp2; go_ret; exact ⟨by rw [h2]; rfl, rfl⟩
def runesK (s : ByteArray) : Nat → Nat → Int → Int
 | 0, _, n => n
 | g + 1, i, n => if i < s.size then (if zej s i then -1 else runesK s g (i + (Utf8.decode s i).2) (n + 1)) else n
def runes (s : ByteArray) : Int := runesK s s.size 0 0
theorem zmq (s : ByteArray) (i : Nat) (h : i < s.size) : 1 ≤ (Utf8.decode s i).2 ∧ i + (Utf8.decode s i).2 ≤ s.size := by
 refine ⟨Go.Lib.decode_width_pos s i h, ?_⟩; unfold Utf8.decode; simp only
 repeat' split
 all_goals simp_all
 all_goals omega
theorem zhm (s : ByteArray) : ∀ (g i : Nat) (n : Int) (g' : Nat), s.size ≤ i + g → g ≤ g' → runesK s g' i n = runesK s g i n
 | 0, i, n, g', h, _ => by
   cases g' with
   | zero => rfl
   | succ g' => unfold runesK; rw [if_neg (by omega)]
 | g + 1, i, n, g', h, hg => by
   cases g' with
   | zero => omega
   | succ g' =>
     unfold runesK; by_cases hi : i < s.size
     · rw [if_pos hi, if_pos hi]
       cases zej s i
       · simp only [Bool.false_eq_true, if_false]
         have := (zmq s i hi).1; exact zhm s g _ _ g' (by omega) (by omega)
       rfl
     rw [if_neg hi, if_neg hi]
theorem zha (w : World) (s : ByteArray) : Calls Tryz.prog 162 #[.string s, .int .u8 0] w fun e w' => e = .returned (.int .i64 (firstIdx s 0)) ∧ w = w' := by
 have hx : ∀ W, (callFunc 180 #[.string s, .int .u8 0]).run Tryz.prog W = .ok (.value (.int .i64 (firstIdx s 0))) W := by
  intro W; rw [run_callFunc_extern (e := Extern.BytealgIndexByte.indexByte) Tryz.func180 (by kernel_rfl) (by kernel_rfl) (by kernel_rfl) (by kernel_rfl), run_indexByte_string]
  rfl
 go_enter Tryz.func162, Tryz.ntmps162; go_wp2; go_ret; exact ⟨rfl, rfl⟩
theorem zhy (w : World) (s : ByteArray) : Calls Tryz.prog 120 #[.string s, .int .u8 0] w fun e w' => e = .returned (.int .i64 (firstIdx s 0)) ∧ w = w' := by
 go_enter Tryz.func120, Tryz.ntmps120; go_wp2_with (go_at_call 162; refine (zha _ _).mono ?_; rintro e w' ⟨rfl, rfl⟩); go_ret; exact ⟨rfl, rfl⟩
theorem run_next_at {P : Program} (w : World) (b : Nat) (s : ByteArray) (pos : Nat) (ty : TypeId) (hb : w.heap[b]? = some (.stringIter s pos)) (h : pos < s.size) :
 (Instr.next (.pointer (some ⟨b, 0, none⟩)) true ty).run P w =
   .ok (.tuple #[.bool true, .int .i64 pos, .int .i32 (Utf8.decode s pos).1]) (ChangeMaps.setBlock w b (.stringIter s (pos + (Utf8.decode s pos).2))) := by
 simp [Instr.next, getObj, setObj, Sem.run, Result.andThen, hb, h, goInt, ChangeMaps.setBlock]
theorem zjv {P : Program} (w : World) (b : Nat) (s : ByteArray) (pos : Nat) (ty : TypeId) (hb : w.heap[b]? = some (.stringIter s pos)) (h : ¬ pos < s.size) :
 (Instr.next (.pointer (some ⟨b, 0, none⟩)) true ty).run P w = .ok (.tuple #[.bool false]) w := by
 simp [Instr.next, getObj, Sem.run, hb, h]
theorem zgi (w : World) (b k : Nat) (o : Obj) (h : k ≠ b) : (ChangeMaps.setBlock w b o).heap[k]? = w.heap[k]? := by
 unfold ChangeMaps.setBlock; exact Array.getElem?_setIfInBounds_ne (fun e => h e.symm)
theorem zsl (w : World) (b : Nat) (o : Obj) (h : b < w.heap.size) : (ChangeMaps.setBlock w b o).heap[b]? = some o := by
 unfold ChangeMaps.setBlock; simp [h]
theorem zoy (w : World) (s : ByteArray) (hs : s.size ≤ 1099511627776) : Calls Tryz.prog 119 #[.string s] w fun e w' => e = .returned (.int .i64 (runes s)) ∧ Fr No w w' := by
 go_enter Tryz.func119, Tryz.ntmps119; go_wp2
 go_loopg [3] s.size (fun g s3 wr => ∃ (pos : Nat) (n : Int), s3 = .int .i64 n ∧ pos + g = s.size ∧ 0 ≤ n ∧ n ≤ pos ∧ Hid (runesK s g pos n = runes s) ∧ Hid (wr.heap[w.heap.size]? = some (.stringIter s pos)) ∧ Hid (Fr No w wr))
 case atStart => exact ⟨0, 0, rfl, by simp, by omega, by omega, H_ rfl, H_ (World.iter_heap _ _ _), H_ ((Fr.refl No w).alloc _)⟩
 case round =>
  obtain ⟨pos, n, rfl, hg, hn0, hn1, HK, HB, HF⟩ := hrel; by_cases hp : pos < s.size
  · have hnx := fun ty => run_next_at (P := Tryz.prog) wr w.heap.size s pos ty HB.out hp
    have hd := zmq s pos hp
    have hfw : Fr No w (ChangeMaps.setBlock wr w.heap.size (.stringIter s (pos + (Utf8.decode s pos).2))) :=
     ⟨HF.out.os, HF.out.tape, HF.out.output, by have := HF.out.size; simpa [ChangeMaps.setBlock] using this, fun k hk hS => (zgi wr _ k _ (by omega)).trans (HF.out.block k hk hS)⟩
    have hbw := zsl wr w.heap.size (.stringIter s (pos + (Utf8.decode s pos).2)) (zaa HB.out)
    have hstep : runesK s gk pos n = if zej s pos then -1 else runesK s (s.size - (pos + (Utf8.decode s pos).2)) (pos + (Utf8.decode s pos).2) (n + 1) := by
     obtain ⟨k, rfl⟩ : ∃ k, gk = k + 1 := ⟨gk - 1, by omega⟩
     conv => lhs; unfold runesK
     rw [if_pos hp]
     congr 1
     exact zhm s _ _ _ _ (by omega) (by omega)
    have HFW := H_ hfw; have HBW := H_ hbw; have hwr := fun W => zmy W s pos (Utf8.decode s pos).1 (by omega); have hwa : ((Utf8.decode s pos).1 == 65533 && !sign3 (s.extract pos s.size)) = zej s pos := rfl; simp only [hwa] at hwr; generalize ChangeMaps.setBlock wr w.heap.size (.stringIter s (pos + (Utf8.decode s pos).2)) = W1 at *; generalize Utf8.decode s pos = d at *; clear hfw hbw hwa; cases hw : zej s pos
    · rw [hw] at hstep hwr
      have HS := H_ hstep; clear hstep hw; go_wp2_with (go_at_call 161; refine (hwr _).mono ?_; rintro e w' ⟨rfl, rfl⟩); go_roundg (s.size - (pos + d.2))
      case rel => exact ⟨pos + d.2, n + 1, rfl, by omega, by omega, by omega, H_ (by rw [← HK.out, HS.out]; simp), HBW, HFW⟩
      case measure => omega
    rw [hw] at hstep hwr
    have HS := H_ hstep; clear hstep hw; go_wp2_with (go_at_call 161; refine (hwr _).mono ?_; rintro e w' ⟨rfl, rfl⟩); go_ret; exact ⟨by rw [← HK.out, HS.out]; rfl, HFW.out⟩
  have hnx := fun ty => zjv (P := Tryz.prog) wr w.heap.size s pos ty HB.out hp
  have hend : runesK s gk pos n = n := by
   obtain rfl : gk = 0 := by omega
   rfl
  have HE := H_ hend; clear hend; go_wp2; go_ret; exact ⟨by rw [← HK.out, HE.out]; rfl, HF.out⟩
def keyE (s : ByteArray) : Int := if runes s < 1 ∨ 0 ≤ firstIdx s 0 then 30 else if 64 < s.size then 31 else 0
theorem zil (w : World) (s : ByteArray) (hs : s.size ≤ 1099511627776) : Calls Tryz.prog 65 #[.string s] w fun e w' => e = .returned (.int .i64 (keyE s)) ∧ Fr No w w' := by
 have hr := fun W => zoy W s hs; have hx := fun W => zhy W s; have hb : 0 ≤ runes s ∨ runes s < 0 := by omega
 unfold keyE; generalize runes s = r at *; generalize firstIdx s 0 = x at *; by_cases h1 : r < 1
 · have h1' : ¬ 1 ≤ r := by omega
   rw [if_pos (.inl h1)]; go_enter Tryz.func65, Tryz.ntmps65; go_wp2_with (first | (go_at_call 119; refine (hr _).mono ?_; rintro e w1 ⟨rfl, hf⟩) | (go_at_call 120; refine (hx _).mono ?_; rintro e w' ⟨rfl, rfl⟩)); go_ret; exact ⟨rfl, hf⟩
 by_cases h2 : 0 ≤ x
 · rw [if_pos (.inr h2)]
   go_enter Tryz.func65, Tryz.ntmps65; go_wp2_with (first | (go_at_call 119; refine (hr _).mono ?_; rintro e w1 ⟨rfl, hf⟩) | (go_at_call 120; refine (hx _).mono ?_; rintro e w' ⟨rfl, rfl⟩)); go_ret; exact ⟨rfl, hf⟩
 rw [if_neg (by omega)]
 by_cases h3 : 64 < s.size
 · have h3' : (64 : Int) < (s.size : Int) := by omega
   rw [if_pos h3]; go_enter Tryz.func65, Tryz.ntmps65; go_wp2_with (first | (go_at_call 119; refine (hr _).mono ?_; rintro e w1 ⟨rfl, hf⟩) | (go_at_call 120; refine (hx _).mono ?_; rintro e w' ⟨rfl, rfl⟩)); go_ret; exact ⟨rfl, hf⟩
 have h3' : ¬ (64 : Int) < (s.size : Int) := by omega
 rw [if_neg h3]; go_enter Tryz.func65, Tryz.ntmps65; go_wp2_with (first | (go_at_call 119; refine (hr _).mono ?_; rintro e w1 ⟨rfl, hf⟩) | (go_at_call 120; refine (hx _).mono ?_; rintro e w' ⟨rfl, rfl⟩)); go_ret; exact ⟨rfl, hf⟩
open Go Go.RowKit
def klt (a b : ByteArray) : Bool := Op.bytesLess a.toList b.toList
def keq (a b : ByteArray) : Bool := a.toList == b.toList
theorem zar {a b : ByteArray} : keq a b = true ↔ a = b := by
 unfold keq; rw [beq_iff_eq, Lib.toList_data, Lib.toList_data]
 constructor
 · intro h
   cases a; cases b
   simp at h; simp [h]
 rintro rfl; rfl
theorem zdd {a b : ByteArray} : klt a b = true ↔ a.data.toList < b.data.toList := by
 unfold klt; rw [Go.Proofs.bytesLess_eq, decide_eq_true_eq, Lib.toList_data, Lib.toList_data]
theorem zaz (a : ByteArray) : klt a a = false := by
 rw [Bool.eq_false_iff]; intro h; exact List.lt_irrefl _ (zdd.1 h)
theorem zbu {a b c : ByteArray} (h : klt a b = true) (h' : klt b c = true) : klt a c = true := zdd.2 (List.lt_trans (zdd.1 h) (zdd.1 h'))
theorem zcd {a b : ByteArray} (h : klt a b = true) : klt b a = false := by
 rw [Bool.eq_false_iff]; intro h'; have := zbu h h'; rw [zaz] at this; cases this
theorem klt_ne {a b : ByteArray} (h : klt a b = true) : keq a b = false := by
 rw [Bool.eq_false_iff]; intro h'; obtain rfl := zar.1 h'; rw [zaz] at h; cases h
theorem zdx (a b : ByteArray) : klt a b = true ∨ a = b ∨ klt b a = true := by
 by_cases h : a.data.toList < b.data.toList
 · exact .inl (zdd.2 h)
 by_cases h' : b.data.toList < a.data.toList
 · exact .inr (.inr (zdd.2 h'))
 right; left
 have := List.le_antisymm (List.not_lt.1 h') (List.not_lt.1 h); cases a; cases b
 simp at this; simp [this]
theorem ztg {a b : ByteArray} (h : klt a b = false) (h' : keq a b = false) : klt b a = true := by
 rcases zdx a b with h1 | h1 | h1
 · rw [h] at h1; cases h1
 · rw [zar.2 h1] at h'; cases h'
 exact h1
theorem zbv (a b : ByteArray) : keq a b = keq b a := by
 rw [Bool.eq_iff_iff, zar, zar]; exact eq_comm
theorem zet {a b c : ByteArray} (h : klt b a = false) (h' : klt b c = true) : klt a c = true := by
 rcases zdx a b with h1 | rfl | h1
 · exact zbu h1 h'
 · exact h'
 rw [h] at h1; cases h1
abbrev Pairs := List (ByteArray × Int)
def Sorted (T : Pairs) : Prop := T.Pairwise fun p q => klt p.1 q.1 = true
def spotOf (T : Pairs) (key : ByteArray) : Nat := T.findIdx fun p => !klt p.1 key
def hitOf (T : Pairs) (key : ByteArray) : Bool := match T[spotOf T key]? with
 | some p => keq p.1 key
 | none => false
def getT (T : Pairs) (key : ByteArray) : Int × Bool := match T.find? fun p => keq p.1 key with
 | some p => (p.2, true)
 | none => (0, false)
def insT (T : Pairs) (key : ByteArray) (n : Int) : Pairs := match T with
 | [] => [(key, n)]
 | p :: T => if klt p.1 key then p :: insT T key n else if keq p.1 key then (key, n) :: T else (key, n) :: p :: T
def delT (T : Pairs) (key : ByteArray) : Pairs := T.filter fun p => !keq p.1 key
def rangeT (T : Pairs) (frm tO : ByteArray) : Pairs := T.filter fun p => !klt p.1 frm && (tO.toList.isEmpty || klt p.1 tO)
theorem zbn (T : Pairs) (key : ByteArray) : spotOf T key ≤ T.length := List.findIdx_le_length
theorem ztp (T : Pairs) (hT : Sorted T) (key : ByteArray) (n : Int) :
 insT T key n = if hitOf T key then T.set (spotOf T key) (key, n) else T.take (spotOf T key) ++ (key, n) :: T.drop (spotOf T key) := by
 induction T with
 | nil => simp [insT, hitOf, spotOf]
 | cons p T ih =>
   have hT' : Sorted T := (List.pairwise_cons.1 hT).2; by_cases h : klt p.1 key = true
   · have e1 : spotOf (p :: T) key = spotOf T key + 1 := by simp [spotOf, List.findIdx_cons, h]
     have e2 : hitOf (p :: T) key = hitOf T key := (by simp [hitOf, e1]); rw [e1, e2]; simp only [insT, h, if_true, ih hT']; by_cases h2 : hitOf T key = true <;> simp [h2]
   simp only [Bool.not_eq_true] at h
   have e1 : spotOf (p :: T) key = 0 := (by simp [spotOf, List.findIdx_cons, h]); have e2 : hitOf (p :: T) key = keq p.1 key := (by simp [hitOf, e1]); rw [e1, e2]; simp only [insT, h, Bool.false_eq_true, if_false]; by_cases h2 : keq p.1 key = true <;> simp [h2]
theorem zkh (T : Pairs) (hT : Sorted T) (key : ByteArray) : getT T key = if hitOf T key then ((T[spotOf T key]?.getD default).2, true) else (0, false) := by
 induction T with
 | nil => simp [getT, hitOf, spotOf]
 | cons p T ih =>
   have hT' : Sorted T := (List.pairwise_cons.1 hT).2; by_cases h : klt p.1 key = true
   · have e1 : spotOf (p :: T) key = spotOf T key + 1 := by simp [spotOf, List.findIdx_cons, h]
     have e2 : hitOf (p :: T) key = hitOf T key := (by simp [hitOf, e1]); have e3 : getT (p :: T) key = getT T key := (by simp [getT, klt_ne h]); rw [e1, e2, e3, ih hT']; simp
   simp only [Bool.not_eq_true] at h
   have e1 : spotOf (p :: T) key = 0 := (by simp [spotOf, List.findIdx_cons, h]); have e2 : hitOf (p :: T) key = keq p.1 key := (by simp [hitOf, e1]); rw [e1, e2]; by_cases h2 : keq p.1 key = true
   · simp [getT, h2]
   simp only [Bool.not_eq_true] at h2
   have hn : (T.find? fun p => keq p.1 key) = none := by
    rw [List.find?_eq_none]; intro q hq; have := (List.pairwise_cons.1 hT).1 q hq; have h3 := zbu (ztg h h2) this; rw [zbv, klt_ne h3]; simp
   simp [getT, h2, hn]
theorem zhx (T : Pairs) (hT : Sorted T) (key : ByteArray) (n : Int) : Sorted (insT T key n) ∧ ∀ q ∈ insT T key n, q ∈ T ∨ q.1 = key := by
 induction T with
 | nil => simp [insT, Sorted]
 | cons p T ih =>
   obtain ⟨hp, hT'⟩ := List.pairwise_cons.1 hT; obtain ⟨ih1, ih2⟩ := ih hT'; by_cases h : klt p.1 key = true
   · simp only [insT, h, if_true]
     refine ⟨List.pairwise_cons.2 ⟨fun q hq => ?_, ih1⟩, fun q hq => ?_⟩
     · rcases ih2 q hq with h1 | h1
       · exact hp q h1
       rw [h1]; exact h
     rcases List.mem_cons.1 hq with rfl | h1
     · simp
     rcases ih2 q h1 with h2 | h2 <;> simp [h2]
   simp only [Bool.not_eq_true] at h
   by_cases h2 : keq p.1 key = true
   · simp only [insT, h, h2, Bool.false_eq_true, if_false, if_true]
     have e := zar.1 h2; refine ⟨List.pairwise_cons.2 ⟨fun q hq => ?_, hT'⟩, fun q hq => ?_⟩
     · have := hp q hq; rw [e] at this; exact this
     rcases List.mem_cons.1 hq with rfl | h1
     · simp
     simp [h1]
   simp only [Bool.not_eq_true] at h2
   simp only [insT, h, h2, Bool.false_eq_true, if_false]; have e := ztg h h2; refine ⟨List.pairwise_cons.2 ⟨fun q hq => ?_, hT⟩, fun q hq => ?_⟩
   · rcases List.mem_cons.1 hq with rfl | h1
     · exact e
     exact zbu e (hp q h1)
   rcases List.mem_cons.1 hq with rfl | h1
   · simp
   left; exact h1
theorem zdn (T : Pairs) (hT : Sorted T) (frm : ByteArray) : T.drop (spotOf T frm) = T.filter fun p => !klt p.1 frm := by
 induction T with
 | nil => simp
 | cons p T ih =>
   obtain ⟨hp, hT'⟩ := List.pairwise_cons.1 hT; by_cases h : klt p.1 frm = true
   · have e1 : spotOf (p :: T) frm = spotOf T frm + 1 := by simp [spotOf, List.findIdx_cons, h]
     rw [e1, List.drop_succ_cons, ih hT', List.filter_cons]; simp [h]
   simp only [Bool.not_eq_true] at h
   have e1 : spotOf (p :: T) frm = 0 := (by simp [spotOf, List.findIdx_cons, h]); rw [e1, List.drop_zero]
   symm
   rw [List.filter_eq_self]; intro q hq; rcases List.mem_cons.1 hq with rfl | hq
   · simp [h]
   have h1 := hp q hq
   have : klt q.1 frm = false := by
    rw [Bool.eq_false_iff]; intro h2; rw [zbu h1 h2] at h; cases h
   simp [this]
theorem Sorted.filter {T : Pairs} (hT : Sorted T) (f : ByteArray × Int → Bool) : Sorted (T.filter f) := List.Pairwise.filter f hT
def ahead (tO : ByteArray) (p : ByteArray × Int) : Bool := tO.toList.isEmpty || klt p.1 tO
theorem zmi (D : Pairs) (hD : Sorted D) (tO : ByteArray) : D.filter (ahead tO) = D.takeWhile (ahead tO) := by
 induction D with
 | nil => simp
 | cons p D ih =>
   obtain ⟨hp, hD'⟩ := List.pairwise_cons.1 hD; rw [List.filter_cons, List.takeWhile_cons]; by_cases h : ahead tO p = true
   · simp [h, ih hD']
   simp only [h]
   simp only [Bool.not_eq_true] at h; simp only [Bool.false_eq_true, if_false]; rw [List.filter_eq_nil_iff]; intro q hq; have h1 := hp q hq; unfold ahead at *; simp only [Bool.or_eq_false_iff] at h; simp only [h.1, Bool.false_or, Bool.not_eq_true]; rw [Bool.eq_false_iff]; intro h2; rw [zbu h1 h2] at h; cases h.2
theorem zlk (T : Pairs) (hT : Sorted T) (frm tO : ByteArray) : rangeT T frm tO = (T.drop (spotOf T frm)).takeWhile (ahead tO) := by
 rw [zdn T hT, ← zmi _ (hT.filter _), List.filter_filter]; unfold rangeT ahead
 congr 1
 funext p
 rw [Bool.and_comm]
theorem zip {α : Type} {p : α → Bool} {l a r : List α} {x : α} (h : l = a ++ x :: r) (ha : ∀ y ∈ a, p y = true) (hx : p x = false) : l.takeWhile p = a := by
 subst h
 induction a with
 | nil => simp [hx]
 | cons y a ih =>
   rw [List.cons_append, List.takeWhile_cons, ha y (by simp)]; simp only [if_true]; rw [ih fun z hz => ha z (by simp [hz])]
theorem zfu {α : Type} {p : α → Bool} {l : List α} (h : ∀ y ∈ l, p y = true) : l.takeWhile p = l := by
 induction l with
 | nil => rfl
 | cons y l ih => rw [List.takeWhile_cons, h y (by simp)]; simp only [if_true]; rw [ih fun z hz => h z (by simp [hz])]
structure Rg where
 key : ByteArray
 end_ : ByteArray
 rev : Int
 limit : Int
 keys : Bool
 count : Bool
 desc : Bool
def rgV (g : Rg) : Value := .agg #[.string g.key, .string g.end_, .int .i64 g.rev, .int .i64 g.limit, .bool g.keys, .bool g.count, .bool g.desc]
def rgC (g : Rg) : List Value := [.string g.key, .string g.end_, .int .i64 g.rev, .int .i64 g.limit, .bool g.keys, .bool g.count, .bool g.desc]
structure Opr where
 kind : Int
 rg : Rg
 value : ByteArray
 lease : Int
def opV (o : Opr) : Value := .agg #[.int .i64 o.kind, .string o.rg.key, .string o.rg.end_, .int .i64 o.rg.rev, .int .i64 o.rg.limit, .bool o.rg.keys, .bool o.rg.count, .bool o.rg.desc, .string o.value, .int .i64 o.lease]
def opC (o : Opr) : List Value := .int .i64 o.kind :: (rgC o.rg ++ [.string o.value, .int .i64 o.lease])
theorem zag (o : Opr) : (opC o).length = 10 := rfl
def askE (g : Rg) : Int := if keyE g.key ≠ 0 then keyE g.key else if 64 < g.end_.size then 31 else if g.rev < 0 ∨ g.limit < 0 then 1 else 0
theorem zfh (w : World) (g : Rg) (hs : g.key.size ≤ 1099511627776) : Calls Tryz.prog 97 #[rgV g] w fun e w' => e = .returned (.int .i64 (askE g)) ∧ Fr No w w' := by
 have hk := fun W => zil W g.key hs; obtain ⟨g1, g2, g3, g4, g5, g6, g7⟩ := g; unfold askE rgV; dsimp only at *; generalize keyE g1 = k at *; clear hs; by_cases h1 : k ≠ 0
 · have h1' : (k == 0) = false := by simpa using h1
   rw [if_pos h1]; go_enter Tryz.func97, Tryz.ntmps97; go_wp2_with (go_at_call 65; refine (hk _).mono ?_; rintro e w1 ⟨rfl, hf⟩); go_ret; exact ⟨rfl, ((Fr.refl No w).alloc _).trans0 hf⟩
 have h1' : (k == 0) = true := by simpa using h1
 rw [if_neg h1]; by_cases h2 : 64 < g2.size
 · have h2' : (64 : Int) < (g2.size : Int) := by omega
   rw [if_pos h2]; go_enter Tryz.func97, Tryz.ntmps97
   go_wp2_with (go_at_call 65; refine (hk _).mono ?_; rintro e w1 ⟨rfl, hf⟩
                have hb : w1.heap[w.heap.size]? = some (.cells #[.string g1, .string g2, .int .i64 g3, .int .i64 g4, .bool g5, .bool g6, .bool g7] 35 (0, 0)) := hf.heap (zad _ _ _ rfl) id; have x1 : w1.cell? ⟨w.heap.size, 1, none⟩ = some (.string g2) := by simp [World.cell?, hb])
   go_ret; exact ⟨rfl, ((Fr.refl No w).alloc _).trans0 hf⟩
 have h2' : ¬ (64 : Int) < (g2.size : Int) := by omega
 rw [if_neg h2]; by_cases h3 : g3 < 0
 · have h3' : ¬ 0 ≤ g3 := by omega
   rw [if_pos (.inl h3)]; go_enter Tryz.func97, Tryz.ntmps97
   go_wp2_with (go_at_call 65; refine (hk _).mono ?_; rintro e w1 ⟨rfl, hf⟩
                have hb : w1.heap[w.heap.size]? = some (.cells #[.string g1, .string g2, .int .i64 g3, .int .i64 g4, .bool g5, .bool g6, .bool g7] 35 (0, 0)) := hf.heap (zad _ _ _ rfl) id; have x1 : w1.cell? ⟨w.heap.size, 1, none⟩ = some (.string g2) := (by simp [World.cell?, hb]); have x2 : w1.cell? ⟨w.heap.size, 2, none⟩ = some (.int .i64 g3) := by simp [World.cell?, hb])
   go_ret; exact ⟨rfl, ((Fr.refl No w).alloc _).trans0 hf⟩
 by_cases h4 : g4 < 0
 · have h4' : ¬ 0 ≤ g4 := by omega
   rw [if_pos (.inr h4)]; go_enter Tryz.func97, Tryz.ntmps97
   go_wp2_with (go_at_call 65; refine (hk _).mono ?_; rintro e w1 ⟨rfl, hf⟩
                have hb : w1.heap[w.heap.size]? = some (.cells #[.string g1, .string g2, .int .i64 g3, .int .i64 g4, .bool g5, .bool g6, .bool g7] 35 (0, 0)) := hf.heap (zad _ _ _ rfl) id; have x1 : w1.cell? ⟨w.heap.size, 1, none⟩ = some (.string g2) := (by simp [World.cell?, hb]); have x2 : w1.cell? ⟨w.heap.size, 2, none⟩ = some (.int .i64 g3) := (by simp [World.cell?, hb]); have x3 : w1.cell? ⟨w.heap.size, 3, none⟩ = some (.int .i64 g4) := by simp [World.cell?, hb])
   go_ret; exact ⟨rfl, ((Fr.refl No w).alloc _).trans0 hf⟩
 rw [if_neg (by omega)]
 go_enter Tryz.func97, Tryz.ntmps97
 go_wp2_with (go_at_call 65; refine (hk _).mono ?_; rintro e w1 ⟨rfl, hf⟩
              have hb : w1.heap[w.heap.size]? = some (.cells #[.string g1, .string g2, .int .i64 g3, .int .i64 g4, .bool g5, .bool g6, .bool g7] 35 (0, 0)) := hf.heap (zad _ _ _ rfl) id; have x1 : w1.cell? ⟨w.heap.size, 1, none⟩ = some (.string g2) := (by simp [World.cell?, hb]); have x2 : w1.cell? ⟨w.heap.size, 2, none⟩ = some (.int .i64 g3) := (by simp [World.cell?, hb]); have x3 : w1.cell? ⟨w.heap.size, 3, none⟩ = some (.int .i64 g4) := by simp [World.cell?, hb])
 go_ret; exact ⟨rfl, ((Fr.refl No w).alloc _).trans0 hf⟩
def oneE (o : Opr) : Int :=
 if o.kind = 3 then askE o.rg else if o.kind = 2 then askE ⟨o.rg.key, o.rg.end_, 0, 0, false, false, false⟩
 else if o.kind = 1 then (if keyE o.rg.key ≠ 0 then keyE o.rg.key else if 1024 < o.value.size then 31 else if 0 ≤ o.lease then 0 else 1) else 1
theorem ztd (w : World) (o : Opr) (hs : o.rg.key.size ≤ 1099511627776) : Calls Tryz.prog 127 #[opV o] w fun e w' => e = .returned (.int .i64 (oneE o)) ∧ Fr No w w' := by
 have hk := fun W => zil W o.rg.key hs; have ha := fun W => zfh W o.rg hs; have hb := fun W => zfh W ⟨o.rg.key, o.rg.end_, 0, 0, false, false, false⟩ hs; obtain ⟨o1, ⟨g1, g2, g3, g4, g5, g6, g7⟩, o2, o3⟩ := o; unfold oneE opV; unfold rgV at *; dsimp only at *; generalize keyE g1 = k at *; generalize askE _ = a at *; generalize askE _ = b at *; have HK := H_ hk; have HA := H_ ha; have HB := H_ hb; clear hs hk ha hb; by_cases h1 : o1 = 3
 · have h1' : (o1 == 3) = true := by simpa using h1
   rw [if_pos h1]; go_enter Tryz.func127, Tryz.ntmps127; go_wp2_with (go_at_call 97; refine (HA.out _).mono ?_; rintro e w1 ⟨rfl, hf⟩); go_ret; exact ⟨rfl, ((Fr.refl No w).alloc _).trans0 hf⟩
 have h1' : (o1 == 3) = false := by simpa using h1
 rw [if_neg h1]; by_cases h2 : o1 = 2
 · have h2' : (o1 == 2) = true := by simpa using h2
   rw [if_pos h2]; go_enter Tryz.func127, Tryz.ntmps127; go_wp2_with (go_at_call 97; refine (HB.out _).mono ?_; rintro e w1 ⟨rfl, hf⟩); go_ret; exact ⟨rfl, ((Fr.refl No w).alloc _).trans0 hf⟩
 have h2' : (o1 == 2) = false := by simpa using h2
 rw [if_neg h2]; by_cases h3 : o1 = 1
 · rw [if_pos h3]
   subst h3; clear h1 h2 h1' h2'; by_cases h4 : k ≠ 0
   · have h4' : (k == 0) = false := by simpa using h4
     rw [if_pos h4]; go_enter Tryz.func127, Tryz.ntmps127; go_wp2_with (go_at_call 65; refine (HK.out _).mono ?_; rintro e w1 ⟨rfl, hf⟩); go_ret; exact ⟨rfl, ((Fr.refl No w).alloc _).trans0 hf⟩
   have h4' : (k == 0) = true := by simpa using h4
   rw [if_neg h4]; by_cases h5 : 1024 < o2.size
   · have h5' : (1024 : Int) < (o2.size : Int) := by omega
     rw [if_pos h5]; go_enter Tryz.func127, Tryz.ntmps127
     go_wp2_with (go_at_call 65; refine (HK.out _).mono ?_; rintro e w1 ⟨rfl, hf⟩
                  have hb : w1.heap[w.heap.size]? = some (.cells #[.int .i64 1, .string g1, .string g2, .int .i64 g3, .int .i64 g4, .bool g5, .bool g6, .bool g7, .string o2, .int .i64 o3] 94 (0, 0)) := hf.heap (zad _ _ _ rfl) id; have x8 : w1.cell? ⟨w.heap.size, 8, none⟩ = some (.string o2) := by simp [World.cell?, hb])
     go_ret; exact ⟨rfl, ((Fr.refl No w).alloc _).trans0 hf⟩
   have h5' : ¬ (1024 : Int) < (o2.size : Int) := by omega
   rw [if_neg h5]; by_cases h6 : 0 ≤ o3
   · rw [if_pos h6]
     go_enter Tryz.func127, Tryz.ntmps127
     go_wp2_with (go_at_call 65; refine (HK.out _).mono ?_; rintro e w1 ⟨rfl, hf⟩
                  have hb : w1.heap[w.heap.size]? = some (.cells #[.int .i64 1, .string g1, .string g2, .int .i64 g3, .int .i64 g4, .bool g5, .bool g6, .bool g7, .string o2, .int .i64 o3] 94 (0, 0)) := hf.heap (zad _ _ _ rfl) id; have x8 : w1.cell? ⟨w.heap.size, 8, none⟩ = some (.string o2) := (by simp [World.cell?, hb]); have x9 : w1.cell? ⟨w.heap.size, 9, none⟩ = some (.int .i64 o3) := by simp [World.cell?, hb])
     go_ret; exact ⟨rfl, ((Fr.refl No w).alloc _).trans0 hf⟩
   rw [if_neg h6]
   go_enter Tryz.func127, Tryz.ntmps127
   go_wp2_with (go_at_call 65; refine (HK.out _).mono ?_; rintro e w1 ⟨rfl, hf⟩
                have hb : w1.heap[w.heap.size]? = some (.cells #[.int .i64 1, .string g1, .string g2, .int .i64 g3, .int .i64 g4, .bool g5, .bool g6, .bool g7, .string o2, .int .i64 o3] 94 (0, 0)) := hf.heap (zad _ _ _ rfl) id; have x8 : w1.cell? ⟨w.heap.size, 8, none⟩ = some (.string o2) := (by simp [World.cell?, hb]); have x9 : w1.cell? ⟨w.heap.size, 9, none⟩ = some (.int .i64 o3) := by simp [World.cell?, hb])
   go_ret; exact ⟨rfl, ((Fr.refl No w).alloc _).trans0 hf⟩
 have h3' : (o1 == 1) = false := by simpa using h3
 rw [if_neg h3]; go_enter Tryz.func127, Tryz.ntmps127; go_wp2; go_ret; exact ⟨rfl, (Fr.refl No w).alloc _⟩
def inB (key frm end_ : ByteArray) : Bool :=
 if end_.toList.isEmpty then key.toList == frm.toList else if end_.toList == [0] then !Op.bytesLess key.toList frm.toList else !Op.bytesLess key.toList frm.toList && Op.bytesLess key.toList end_.toList
theorem zwm (w : World) (key frm end_ : ByteArray) : Calls Tryz.prog 129 #[.string key, .string frm, .string end_] w fun e w' => e = .returned (.bool (inB key frm end_)) ∧ w = w' := by
 unfold inB; cases h1 : end_.toList.isEmpty
 · cases h2 : (end_.toList == [0])
   · cases h3 : Op.bytesLess key.toList frm.toList <;>
     · go_enter Tryz.func129, Tryz.ntmps129
       go_wp2; go_ret; exact ⟨by simp, rfl⟩
   go_enter Tryz.func129, Tryz.ntmps129
   go_wp2; go_ret; exact ⟨by simp, rfl⟩
 go_enter Tryz.func129, Tryz.ntmps129
 go_wp2; go_ret; exact ⟨by simp, rfl⟩
def SlR {α : Type} (w : World) (sz : Nat) (f : α → List Value) (v : Value) (L : List α) : Prop :=
 ∃ a cap, v = .slice a L.length cap ∧ L.length ≤ cap ∧ cap ≤ maxLen ∧
  (0 < L.length → ∃ g o, a = some ⟨g, o, none⟩ ∧ ∀ (i : Nat) (x : α), L[i]? = some x → ∀ (j : Nat) (u : Value), (f x)[j]? = some u → w.cell? ⟨g, o + i * sz + j, none⟩ = some u)
section
variable {α : Type} {f : α → List Value} {w : World} {e sz : Nat} {v : Value} {L : List α}
theorem SlF.toR (hf : ∀ x, (f x).length = sz) (h : SlF w e sz f v L) : SlR w sz f v L := by
 obtain ⟨a, cap, rfl, h1, h2, h3⟩ := h.shape; refine ⟨a, cap, rfl, h1, h2, fun hp => ?_⟩; obtain ⟨g, o, rfl⟩ := h3 hp; exact ⟨g, o, rfl, fun i x hx j u hu => h.cell hf i j hx hu⟩
theorem SlR.nil (w : World) (sz : Nat) (f : α → List Value) : SlR w sz f (.slice none 0 0) [] := ⟨none, 0, rfl, Nat.le_refl _, by simp, fun h => by simp at h⟩
theorem SlR.shape (h : SlR w sz f v L) : ∃ a cap, v = .slice a L.length cap ∧ L.length ≤ cap ∧ cap ≤ maxLen ∧ (0 < L.length → ∃ g o, a = some ⟨g, o, none⟩) := by
 obtain ⟨a, cap, rfl, h1, h2, h3⟩ := h; exact ⟨a, cap, rfl, h1, h2, fun hp => by obtain ⟨g, o, h4, _⟩ := h3 hp; exact ⟨g, o, h4⟩⟩
theorem SlR.cell {g o cap : Nat} (_ : ∀ x, (f x).length = sz) (h : SlR w sz f (.slice (some ⟨g, o, none⟩) L.length cap) L) (i j : Nat) {x : α} {u : Value} (hx : L[i]? = some x) (hu : (f x)[j]? = some u) :
 w.cell? ⟨g, o + i * sz + j, none⟩ = some u := by
 obtain ⟨a, cap', hv, h1, h2, h3⟩ := h; have hi := (List.getElem?_eq_some_iff.1 hx).1; obtain ⟨g', o', h4, h5⟩ := h3 (by omega); simp only [Value.slice.injEq, true_and] at hv; obtain ⟨rfl, rfl⟩ := hv; simp only [Option.some.injEq, Addr.mk.injEq, and_true] at h4; obtain ⟨rfl, rfl⟩ := h4; exact h5 i x hx j u hu
theorem SlR.cell0 {g o cap : Nat} (hf : ∀ x, (f x).length = sz) (h : SlR w sz f (.slice (some ⟨g, o, none⟩) L.length cap) L) (i : Nat) {x : α} {u : Value} (hx : L[i]? = some x) (hu : (f x)[0]? = some u) :
 w.cell? ⟨g, o + i * sz, none⟩ = some u := h.cell hf i 0 hx hu
theorem SlR.fr {w' : World} {S : Nat → Prop} (h : SlR w sz f v L) (hf : Fr S w w') (hn : ∀ k, v.ownBlock = some k → ¬ S k) : SlR w' sz f v L := by
 obtain ⟨a, cap, rfl, h1, h2, h3⟩ := h; refine ⟨a, cap, rfl, h1, h2, fun hp => ?_⟩; obtain ⟨g, o, rfl, h4⟩ := h3 hp; exact ⟨g, o, rfl, fun i x hx j u hu => hf.cell (h4 i x hx j u hu) (hn g rfl)⟩
theorem SlR.fr0 {w' : World} (h : SlR w sz f v L) (hf : Fr No w w') : SlR w' sz f v L := h.fr hf fun _ _ h => h
theorem SlR.alloc (h : SlR w sz f v L) (o : Obj) : SlR (w.alloc o) sz f v L := h.fr0 ((Fr.refl No w).alloc o)
theorem SlR.take {a : Option Addr} {cap : Nat} (_ : ∀ x, (f x).length = sz) (h : SlR w sz f (.slice a L.length cap) L) (k : Nat) (hk : k ≤ L.length) : SlR w sz f (.slice a k cap) (L.take k) := by
 obtain ⟨a', cap', hv, h1, h2, h3⟩ := h; simp only [Value.slice.injEq, true_and] at hv; obtain ⟨rfl, rfl⟩ := hv; have hl : (L.take k).length = k := by simp; omega
 refine ⟨a, cap, by rw [hl], by omega, h2, fun hp => ?_⟩; obtain ⟨g, o, h4, h5⟩ := h3 (by omega); refine ⟨g, o, h4, fun i x hx => h5 i x ?_⟩; have hi := (List.getElem?_eq_some_iff.1 hx).1; rw [List.getElem?_take_of_lt (by omega)] at hx; exact hx
theorem SlR.drop {g o cap : Nat} (_ : ∀ x, (f x).length = sz) (h : SlR w sz f (.slice (some ⟨g, o, none⟩) L.length cap) L) (k : Nat) (hk : k ≤ L.length) :
 SlR w sz f (.slice (if cap = k then some ⟨g, o, none⟩ else some ⟨g, o + k * sz, none⟩) (L.length - k) (cap - k)) (L.drop k) := by
 obtain ⟨a', cap', hv, h1, h2, h3⟩ := h; simp only [Value.slice.injEq, true_and] at hv; obtain ⟨rfl, rfl⟩ := hv; have hl : (L.drop k).length = L.length - k := by simp
 refine ⟨_, _, by rw [hl], by omega, by omega, fun hp => ?_⟩; obtain ⟨g', o', h4, h5⟩ := h3 (by omega); simp only [Option.some.injEq, Addr.mk.injEq, and_true] at h4; obtain ⟨rfl, rfl⟩ := h4; refine ⟨g, o + k * sz, by rw [if_neg (by omega)], fun i x hx j u hu => ?_⟩; rw [List.getElem?_drop] at hx; have := h5 (k + i) x hx j u hu
 rwa [Nat.add_mul, ← Nat.add_assoc] at this
end
end Go.Proofs.YthljnnjpmdgkoaaGreat