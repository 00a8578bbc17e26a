/- Lemmas for the claim. Conditions stand in each. -/
import Derived.Test.YthljnnjpmdgkoaaGreatG19
import Derived.Test.YthljnnjpmdgkoaaGreatG10
import Derived.Test.YthljnnjpmdgkoaaGreatG01
import Derived.Test.YthljnnjpmdgkoaaGreatG02
import Derived.Lib.RuneCountTail
import Derived.Laws.Runes
import Derived.PlainAid
namespace Go.Proofs.YthljnnjpmdgkoaaGreat
open Go Go.Proofs Go.RowKit
set_option maxRecDepth 100000
def docV (D : Doc) (vk ve : Value) : Value := .agg #[.int .i64 D.rev, .int .i64 D.mark, vk, ve]
structure DocR (w : World) (D : Doc) (vk ve : Value) : Prop where
 kvs : SlR w 6 kvC vk D.kvs
 evs : SlR w 13 evC ve D.events
theorem DocR.fr0 {w w' : World} {D : Doc} {vk ve : Value} (h : DocR w D vk ve) (hf : Fr No w w') : DocR w' D vk ve := ⟨h.kvs.fr0 hf, h.evs.fr0 hf⟩
def atP (D : Doc) (r : Int) (e : Ev) : Bool := decide (D.mark < e.kv.mod) && decide (e.kv.mod ≤ r)
def atTo (D : Doc) (r : Int) (i : Nat) : List Kv := ((D.events.take i).filter (atP D r)).foldl doneL D.kvs
theorem zqb (D : Doc) (r : Int) : atTo D r D.events.length = D.at r := by unfold atTo; rw [List.take_length]; rfl
theorem zud (D : Doc) (r : Int) {i : Nat} {e : Ev} (h : D.events[i]? = some e) : atTo D r (i + 1) = if atP D r e = true then doneL (atTo D r i) e else atTo D r i := by
 unfold atTo; rw [List.take_add_one, h, List.filter_append]; simp only [Option.toList_some, List.filter_cons, List.filter_nil]
 split <;> simp
theorem zqa (D : Doc) (r : Int) (i : Nat) : (atTo D r i).length ≤ D.kvs.length + i := by
 unfold atTo
 have key : ∀ (l : List Ev) (k : List Kv), (l.foldl doneL k).length ≤ k.length + l.length := by
  intro l
  induction l with
  | nil => intro k; exact Nat.le_refl _
  | cons e l ih => intro k; rw [List.foldl_cons]; have := ih (doneL k e); have := zmo k e; simp only [List.length_cons]; omega
 have := key ((D.events.take i).filter (atP D r)) D.kvs; have h2 := List.length_filter_le (atP D r) (D.events.take i); have h3 : (D.events.take i).length ≤ i := List.length_take_le _ _; omega
theorem zos {D : Doc} (h : KSorted D.kvs) (r : Int) (i : Nat) : KSorted (atTo D r i) := zbd h _
set_option maxHeartbeats 8000000 in
theorem zni (w : World) (D : Doc) (vk ve : Value) (hD : DocR w D vk ve) (hs : KSorted D.kvs) (hl : D.kvs.length + D.events.length ≤ 100000000) (r : Int) :
 Calls Tryz.prog 80 #[docV D vk ve, .int .i64 r] w fun e w' => ∃ v', e = .returned v' ∧ SlR w' 6 kvC v' (D.at r) ∧ Fr No w w' ∧ ((v' = vk ∧ D.at r = D.kvs) ∨ ∀ b, v'.ownBlock = some b → w.heap.size ≤ b) := by
 obtain ⟨ea, ecap, rfl, he1, he2, he3⟩ := hD.evs.shape; have hb1 := zad w (Obj.cells #[.int .i64 D.rev, .int .i64 D.mark, vk, .slice ea D.events.length ecap] 30) _ rfl; have hf1 : Fr No w (w.alloc (Obj.cells #[.int .i64 D.rev, .int .i64 D.mark, vk, .slice ea D.events.length ecap] 30)) := (Fr.refl No w).alloc _; have hk1 := hD.kvs.fr0 hf1; have hv1 := hD.evs.fr0 hf1; have hlen := zqa D r; have hso := zos hs r; have hall := zqb D r; obtain ⟨ka, kcap, rfl, hk2, hk3, hk4⟩ := hD.kvs.shape; have HLEN := H_ hlen; have HSO := H_ hso; have HALL := H_ hall; have HB1 := H_ hb1; have HF1 := H_ hf1; have HK1 := H_ hk1; have HV1 := H_ hv1; have HE3 := H_ he3; clear hb1 hf1 hk1 hv1 hlen hso hall hD hs he3 hk4; unfold docV; go_enter Tryz.func80, Tryz.ntmps80; go_wp2
 generalize w.alloc (Obj.cells #[.int .i64 D.rev, .int .i64 D.mark, .slice ka D.kvs.length kcap, .slice ea D.events.length ecap] 30) = W1 at *; have hws : w.heap.size < W1.heap.size := zaa HB1.out
 go_loopg [5, 6] D.events.length (fun g s5 s6 wr => ∃ (i : Nat) (o : Value), s5 = o ∧ s6 = .int .i64 i ∧ i + g = D.events.length ∧ Hid (SlR wr 6 kvC o (atTo D r i)) ∧ Hid (Fr No W1 wr) ∧ Hid ((o = .slice ka D.kvs.length kcap ∧ atTo D r i = D.kvs) ∨ ∀ b, o.ownBlock = some b → w.heap.size ≤ b))
 case atStart => exact ⟨0, _, rfl, rfl, by simp, HK1, H_ (Fr.refl No W1), H_ (.inl ⟨rfl, by simp [atTo]⟩)⟩
 case round =>
  obtain ⟨i, o, rfl, rfl, hi, HO, HF, HOW⟩ := hrel; have hb := HF.out.heap HB1.out id; have lb := zaa hb; have b1 := cellAt hb 1 rfl; have b3 := cellAt hb 3 rfl; clear hb
  cases gk with
  | zero =>
    have hil : ¬ (i : Int) < (D.events.length : Int) := (by omega); have hie : i = D.events.length := (by omega); subst hie; go_wp2; go_ret; exact ⟨_, rfl, by rw [← HALL.out]; exact HO.out, HF1.out.trans0 HF.out, by rw [← HALL.out]; exact HOW.out⟩
  | succ g =>
    have hil : (i : Int) < (D.events.length : Int) := (by omega); obtain ⟨x, hx⟩ : ∃ x, D.events[i]? = some x := ⟨_, List.getElem?_eq_getElem (by omega)⟩; obtain ⟨ga, go, rfl⟩ := HE3.out (by omega); have hstep := zud D r hx; have hlo : (atTo D r i).length ≤ 100000000 := (by have := HLEN.out i; omega); have hua := HV1.out.fr0 HF.out; have x0 := hua.cell0 zab i hx rfl; have x1 := hua.cell zab i 1 hx rfl; have x2 := hua.cell zab i 2 hx rfl; have x3 := hua.cell zab i 3 hx rfl; have x4 := hua.cell zab i 4 hx rfl; have x5 := hua.cell zab i 5 hx rfl; have x6 := hua.cell zab i 6 hx rfl; have x7 := hua.cell zab i 7 hx rfl; have x8 := hua.cell zab i 8 hx rfl; have x9 := hua.cell zab i 9 hx rfl; have x10 := hua.cell zab i 10 hx rfl; have x11 := hua.cell zab i 11 hx rfl; have x12 := hua.cell zab i 12 hx rfl; have lf := World.block_lt_of_cell? _ _ x0; have HSTEP := H_ hstep
    have HC := H_ (fun W (hW : Fr No wr W) => zfx W _ _ (HO.out.fr0 hW) hlo x); clear hstep hua hx; unfold atP at HSTEP; by_cases hm : D.mark < x.kv.mod
    · have hm1 : decide (D.mark < x.kv.mod) = true := decide_eq_true hm
      have hm2 : decide (x.kv.mod > D.mark) = true := decide_eq_true hm; by_cases hr : x.kv.mod ≤ r
      · have hr1 : decide (x.kv.mod ≤ r) = true := decide_eq_true hr
        have HN : Hid (atTo D r (i + 1) = doneL (atTo D r i) x) := H_ (by rw [HSTEP.out, hm1, hr1]; rfl); have HDX : Hid (doneX (atTo D r i) x = doneL (atTo D r i) x) := H_ (zpx (HSO.out i) x); clear HSTEP; obtain ⟨kd, ⟨p1, p2, p3, p4, p5, p6⟩, ⟨q1, q2, q3, q4, q5, q6⟩⟩ := x; unfold evV at HC; dsimp only at x0 x1 x2 x3 x4 x5 x6 x7 x8 x9 x10 x11 x12 hm hm1 hm2 hr hr1 HC; go_upto_region 5 with fail; refine wp_region_still_lit (by kernel_rfl) (by kernel_rfl) ?_; change wpStill _ _ wr.drew _ _ _
        repeat (refine (wpStill_step (fun K hK => ?_) : _); go_simp; refine hK _ ?_; clear hK K)
        refine (wpStill_nil ?_ : _); change Exit.then _ _ _ _ wr.drew; go_wp2_with (go_at_call 73; with_reducible refine (HC.out _ (Fr.refl No wr).drew).mono ?_; rintro e w5 ⟨v5, rfl, hv5, hn5, hf5⟩); have HV5 := H_ (hv5.toR zaf); have HF5 := H_ (HF.out.drew.trans0 hf5); have hsz5 : w.heap.size ≤ wr.drew.heap.size := Nat.le_trans (Nat.le_of_lt hws) HF.out.drew.size; have HN5 := H_ (fun b hb => Nat.le_trans hsz5 (hn5 b hb)); clear hv5 hn5 hf5; go_roundg g
        case rel => exact ⟨i + 1, _, rfl, by go_num, by omega, H_ (by rw [HN.out, ← HDX.out]; exact HV5.out), HF5, H_ (.inr HN5.out)⟩
        case measure => omega
      have hr1 : decide (x.kv.mod ≤ r) = false := decide_eq_false hr
      have HN : Hid (atTo D r (i + 1) = atTo D r i) := H_ (by rw [HSTEP.out, hm1, hr1]; rfl); clear HSTEP HC x0 x1 x2 x3 x5 x6 x7 x8 x9 x10 x11 x12; have lf := World.block_lt_of_cell? _ _ x4; generalize x.kv.mod = xm at *; go_upto_region 5 with fail; refine wp_region_still_lit (by kernel_rfl) (by kernel_rfl) ?_; change wpStill _ _ wr.drew _ _ _
      repeat (refine (wpStill_step (fun K hK => ?_) : _); go_simp; refine hK _ ?_; clear hK K)
      refine (wpStill_nil ?_ : _); change Exit.then _ _ _ _ wr.drew; go_wp2; go_roundg g
      case rel => exact ⟨i + 1, _, rfl, by go_num, by omega, H_ (by rw [HN.out]; exact HO.out), H_ HF.out.drew, H_ (by rw [HN.out]; exact HOW.out)⟩
      case measure => omega
    have hm1 : decide (D.mark < x.kv.mod) = false := decide_eq_false hm
    have hm2 : decide (x.kv.mod > D.mark) = false := decide_eq_false hm; have HN : Hid (atTo D r (i + 1) = atTo D r i) := H_ (by rw [HSTEP.out, hm1]; rfl); clear HSTEP HC x0 x1 x2 x3 x5 x6 x7 x8 x9 x10 x11 x12; have lf := World.block_lt_of_cell? _ _ x4; generalize x.kv.mod = xm at *; go_upto_region 5 with fail; refine wp_region_still_lit (by kernel_rfl) (by kernel_rfl) ?_; change wpStill _ _ wr.drew _ _ _
    repeat (refine (wpStill_step (fun K hK => ?_) : _); go_simp; refine hK _ ?_; clear hK K)
    refine (wpStill_nil ?_ : _); change Exit.then _ _ _ _ wr.drew; go_wp2; go_roundg g
    case rel => exact ⟨i + 1, _, rfl, by go_num, by omega, H_ (by rw [HN.out]; exact HO.out), H_ HF.out.drew, H_ (by rw [HN.out]; exact HOW.out)⟩
    case measure => omega
open Go Go.Proofs Go.RowKit Go.PlainAid
theorem zda (s : ByteArray) (k : Nat) : bt s k = ((s.get! k).toNat : Int) := by
 unfold bt
 split
 · rename_i h
   rw [← Go.Lib.getD_get!']; simp [List.getD, h]
   rfl
 rename_i h
 rw [← Go.Lib.getD_get!']; have : s.data.toList[k]? = none := List.getElem?_eq_none (by simpa using Nat.le_of_not_lt h); simp [List.getD, this]
theorem zrl (s : ByteArray) (i k : Nat) : bt (s.extract i s.size) k = bt s (i + k) := by
 rw [zda, zda, Go.Lib.tail_get!]
def leadN (c : Int) : Nat := if 240 ≤ c then 4 else if 224 ≤ c then 3 else if 192 ≤ c then 2 else 1
def leadV (c : Int) : Int := if 240 ≤ c then c - 240 else if 224 ≤ c then c - 224 else if 192 ≤ c then c - 192 else c
def leadL (c : Int) : Int := if 240 ≤ c then 65536 else if 224 ≤ c then 2048 else if 192 ≤ c then 128 else 0
def contK (s : ByteArray) : Nat → Nat → Int → Option Int
 | 0, _, v => some v
 | g + 1, i, v => if bt s i < 128 ∨ 191 < bt s i then none else contK s g (i + 1) (v * 64 + bt s i - 128)
def oneOf (s : ByteArray) : Nat :=
 if 128 ≤ bt s 0 ∧ bt s 0 < 192 then 0
 else if 248 ≤ bt s 0 ∨ s.size < leadN (bt s 0) then 0
 else match contK s (leadN (bt s 0) - 1) 1 (leadV (bt s 0)) with
  | none => 0
  | some v => if v < leadL (bt s 0) ∨ 1114111 < v ∨ (55296 ≤ v ∧ v ≤ 57343) then 0 else leadN (bt s 0)
theorem zvj (l : List UInt8) (h : 3 ≤ l.length) (a b c : UInt8) : (l.take 3 == [a, b, c]) = (l.getD 0 0 == a && l.getD 1 0 == b && l.getD 2 0 == c) := by
 match l, h with
 | x :: y :: z :: t, _ =>
   show ((x :: y :: z :: t).take 3 == [a, b, c]) = _
   simp [Bool.and_assoc]
theorem zuu (s : ByteArray) : sign3 s = (decide (3 ≤ s.size) && decide (bt s 0 = 239) && decide (bt s 1 = 191) && decide (bt s 2 = 189)) := by
 unfold sign3; by_cases h : 3 ≤ s.size
 · have hl : 3 ≤ s.data.toList.length := by simpa using h
   have hx : (s.extract 0 3).toList = s.data.toList.take 3 := by
    rw [Lib.toList_data]; simp [ByteArray.data_extract]
   rw [hx, zvj _ hl, Go.Lib.getD_get!', Go.Lib.getD_get!', Go.Lib.getD_get!', zda, zda, zda]
   have key : ∀ (x : UInt8) (n : Nat) (hn : n < 256), (x == UInt8.ofNat n) = decide ((x.toNat : Int) = (n : Int)) := by
    intro x n hn; rw [Bool.eq_iff_iff, beq_iff_eq, decide_eq_true_eq]
    constructor
    · rintro rfl; simp; omega
    intro e
    have e' : x.toNat = n := (by omega); rw [← e']; simp
   have k0 := key (s.get! 0) 239 (by omega); have k1 := key (s.get! 1) 191 (by omega); have k2 := key (s.get! 2) 189 (by omega); have e0 : (s.get! 0 == (239 : UInt8)) = (s.get! 0 == UInt8.ofNat 239) := rfl; have e1 : (s.get! 1 == (191 : UInt8)) = (s.get! 1 == UInt8.ofNat 191) := rfl; have e2 : (s.get! 2 == (189 : UInt8)) = (s.get! 2 == UInt8.ofNat 189) := rfl; rw [e0, e1, e2, k0, k1, k2]; simp [h, Bool.and_assoc]
 simp [h]
set_option maxHeartbeats 4000000 in
theorem zqr (s : ByteArray) (hs : 0 < s.size) : (((Utf8.decode s 0).1 == 65533 && !sign3 s) = true ∧ oneOf s = 0) ∨
 (((Utf8.decode s 0).1 == 65533 && !sign3 s) = false ∧ 1 ≤ oneOf s ∧ oneOf s = (Utf8.decode s 0).2 ∧ oneOf s ≤ s.size ∧ ∀ k, 1 ≤ k → k < oneOf s → bt s k ≠ 0) := by
 have hd := Go.Lib.decode_at s 0; rw [zuu]; have c0 := zda s 0; have c1 := zda s 1; have c2 := zda s 2; have c3 := zda s 3; have l0 : (s.get! 0).toNat < 256 := (s.get! 0).toNat_lt; have l1 : (s.get! 1).toNat < 256 := (s.get! 1).toNat_lt; have l2 : (s.get! 2).toNat < 256 := (s.get! 2).toNat_lt; have l3 : (s.get! 3).toNat < 256 := (s.get! 3).toNat_lt; simp only [Nat.zero_add, Nat.sub_zero] at hd; rw [hd]; unfold oneOf
 have hbt : ∀ k, 1 ≤ k → k < 4 → bt s k = if k = 1 then ((s.get! 1).toNat : Int) else if k = 2 then ((s.get! 2).toNat : Int) else ((s.get! 3).toNat : Int) := by
  intro k h1 h2; have : k = 1 ∨ k = 2 ∨ k = 3 := (by omega); rcases this with rfl | rfl | rfl <;> simp [c1, c2, c3]
 generalize hb0 : (s.get! 0).toNat = b0 at *; generalize hb1 : (s.get! 1).toNat = b1 at *; generalize hb2 : (s.get! 2).toNat = b2 at *; generalize hb3 : (s.get! 3).toNat = b3 at *
 have hK : contK s (leadN (b0 : Int) - 1) 1 (leadV (b0 : Int)) =
  if b0 < 192 then some (b0 : Int)
  else if b0 < 224 then (if b1 < 128 ∨ 191 < b1 then none else some (((b0 : Int) - 192) * 64 + b1 - 128))
  else if b0 < 240 then (if b1 < 128 ∨ 191 < b1 then none else if b2 < 128 ∨ 191 < b2 then none else some ((((b0 : Int) - 224) * 64 + b1 - 128) * 64 + b2 - 128))
  else (if b1 < 128 ∨ 191 < b1 then none else if b2 < 128 ∨ 191 < b2 then none else if b3 < 128 ∨ 191 < b3 then none else some (((((b0 : Int) - 240) * 64 + b1 - 128) * 64 + b2 - 128) * 64 + b3 - 128)) := by
  have q1 : ((b1 : Int) < 128 ∨ 191 < (b1 : Int)) ↔ (b1 < 128 ∨ 191 < b1) := (by omega); have q2 : ((b2 : Int) < 128 ∨ 191 < (b2 : Int)) ↔ (b2 < 128 ∨ 191 < b2) := (by omega); have q3 : ((b3 : Int) < 128 ∨ 191 < (b3 : Int)) ↔ (b3 < 128 ∨ 191 < b3) := (by omega); unfold leadN leadV; by_cases h1 : b0 < 192
  · rw [if_pos h1, if_neg (by omega), if_neg (by omega), if_neg (by omega), if_neg (by omega), if_neg (by omega), if_neg (by omega)]
    rfl
  rw [if_neg h1]
  by_cases h2 : b0 < 224
  · rw [if_pos h2, if_neg (by omega), if_neg (by omega), if_pos (by omega), if_neg (by omega), if_neg (by omega), if_pos (by omega)]
    simp only [contK, c1, Nat.reduceSub, q1]
  rw [if_neg h2]
  by_cases h3 : b0 < 240
  · rw [if_pos h3, if_neg (by omega), if_pos (by omega), if_neg (by omega), if_pos (by omega)]
    simp only [contK, c1, c2, Nat.reduceSub, Nat.reduceAdd, q1, q2]
  rw [if_neg h3, if_pos (by omega), if_pos (by omega)]
  simp only [contK, c1, c2, c3, Nat.reduceSub, Nat.reduceAdd, q1, q2, q3]
 rw [c0, hK]; rw [c1, c2]
 have hN : leadN (b0 : Int) = if b0 < 192 then 1 else if b0 < 224 then 2 else if b0 < 240 then 3 else 4 := by
  unfold leadN
  repeat' split
  all_goals omega
 have hL : leadL (b0 : Int) = if b0 < 192 then 0 else if b0 < 224 then 128 else if b0 < 240 then 2048 else 65536 := by
  unfold leadL
  repeat' split
  all_goals omega
 rw [hN, hL]; clear hN hL hK hd; have fin : ∀ (m w r : Nat), m ≤ 4 → (r, w) = (r, w) → True := fun _ _ _ _ _ => trivial; clear fin; unfold Go.Lib.decodeN; by_cases h1 : b0 < 128
 · right
   simp only [h1, if_true]; have e1 : ¬ (128 ≤ (b0 : Int) ∧ (b0 : Int) < 192) := (by omega); have e2 : b0 < 192 := (by omega); have e3 : ¬ (248 ≤ (b0 : Int) ∨ s.size < 1) := (by omega); have e4 : ¬ ((b0 : Int) < 0 ∨ 1114111 < (b0 : Int) ∨ (55296 ≤ (b0 : Int) ∧ (b0 : Int) ≤ 57343)) := (by omega); simp only [if_neg e1, if_pos e2, if_neg e3, if_neg e4]; refine ⟨?_, by omega, trivial, by omega, fun k h2 h3 => by omega⟩; have : (b0 == 65533) = false := (by rw [beq_eq_false_iff_ne]; omega); rw [this]; rfl
 by_cases h2 : b0 < 192
 · left
   have e1 : (128 ≤ (b0 : Int) ∧ (b0 : Int) < 192) := (by omega); rw [if_neg h1, if_neg (by omega), if_neg (by omega), if_neg (by omega), if_pos e1]; have : (decide ((b0 : Int) = 239)) = false := (by rw [decide_eq_false_iff_not]; omega); simp [this]
 have e1 : ¬ (128 ≤ (b0 : Int) ∧ (b0 : Int) < 192) := by omega
 rw [if_neg e1, if_neg h1]; simp only [if_neg h2]; by_cases h3 : b0 < 224
 · simp only [if_pos h3]
   by_cases h4 : 1 < s.size ∧ b1 / 64 = 2
   · rw [if_pos ⟨by omega, h4⟩, if_neg (by omega : ¬ (248 ≤ (b0 : Int) ∨ s.size < 2)), if_neg (by omega : ¬ (b1 < 128 ∨ 191 < b1))]
     by_cases h5 : 128 ≤ b0 % 32 * 64 + b1 % 64
     · right
       rw [if_pos h5]; dsimp only; rw [if_neg (by omega)]
       refine ⟨?_, by omega, rfl, by omega, fun k h6 h7 => by rw [hbt k h6 (by omega)]; have : k = 1 := by omega
                                                              subst this; simp; omega⟩
       have : (b0 % 32 * 64 + b1 % 64 == 65533) = false := (by rw [beq_eq_false_iff_ne]; omega); rw [this]; rfl
     left
     rw [if_neg h5]; dsimp only; rw [if_pos (by omega)]; have : (decide ((b0 : Int) = 239)) = false := (by rw [decide_eq_false_iff_not]; omega); simp [this]
   left
   rw [if_neg (fun h => h4 h.2), if_neg (by omega), if_neg (by omega)]; have : (decide ((b0 : Int) = 239)) = false := (by rw [decide_eq_false_iff_not]; omega); refine ⟨by simp [this], ?_⟩; by_cases h5 : 248 ≤ (b0 : Int) ∨ s.size < 2
   · rw [if_pos h5]
   rw [if_neg h5, if_pos (by omega)]
 simp only [if_neg h3]
 rw [if_neg (by omega : ¬ (b0 / 32 = 6 ∧ (1 < s.size ∧ b1 / 64 = 2)))]; by_cases h3' : b0 < 240
 · simp only [if_pos h3']
   by_cases h4 : (1 < s.size ∧ b1 / 64 = 2) ∧ (2 < s.size ∧ b2 / 64 = 2)
   · rw [if_pos ⟨by omega, h4⟩, if_neg (by omega : ¬ (248 ≤ (b0 : Int) ∨ s.size < 3)), if_neg (by omega : ¬ (b1 < 128 ∨ 191 < b1)), if_neg (by omega : ¬ (b2 < 128 ∨ 191 < b2))]
     by_cases h5 : b0 % 16 * 4096 + b1 % 64 * 64 + b2 % 64 ≥ 2048 ∧ (b0 % 16 * 4096 + b1 % 64 * 64 + b2 % 64 < 55296 ∨ (57344 ≤ b0 % 16 * 4096 + b1 % 64 * 64 + b2 % 64 ∧ b0 % 16 * 4096 + b1 % 64 * 64 + b2 % 64 ≤ 1114111))
     · right
       rw [if_pos h5]; dsimp only; rw [if_neg (by omega)]; refine ⟨?_, by omega, rfl, by omega, fun k h6 h7 => ?_⟩
       · by_cases h8 : b0 % 16 * 4096 + b1 % 64 * 64 + b2 % 64 = 65533
         · have : (decide (3 ≤ s.size) && decide ((b0 : Int) = 239) && decide ((b1 : Int) = 191) && decide ((b2 : Int) = 189)) = true := by
            simp only [Bool.and_eq_true, decide_eq_true_eq]; omega
           rw [this]; simp
         have : (b0 % 16 * 4096 + b1 % 64 * 64 + b2 % 64 == 65533) = false := by rw [beq_eq_false_iff_ne]; omega
         rw [this]; rfl
       rw [hbt k h6 (by omega)]
       have : k = 1 ∨ k = 2 := (by omega); rcases this with rfl | rfl <;> simp <;> omega
     left
     rw [if_neg h5]; dsimp only; rw [if_pos (by omega)]
     have : (decide (3 ≤ s.size) && decide ((b0 : Int) = 239) && decide ((b1 : Int) = 191) && decide ((b2 : Int) = 189)) = false := by
      rw [Bool.eq_false_iff]; simp only [ne_eq, Bool.and_eq_true, decide_eq_true_eq]; omega
     rw [this]; simp
   left
   rw [if_neg (fun h => h4 h.2), if_neg (by omega)]
   have : (decide (3 ≤ s.size) && decide ((b0 : Int) = 239) && decide ((b1 : Int) = 191) && decide ((b2 : Int) = 189)) = false := by
    rw [Bool.eq_false_iff]; simp only [ne_eq, Bool.and_eq_true, decide_eq_true_eq]; omega
   refine ⟨by rw [this]; simp, ?_⟩; by_cases h5 : 248 ≤ (b0 : Int) ∨ s.size < 3
   · rw [if_pos h5]
   rw [if_neg h5]
   by_cases h6 : b1 < 128 ∨ 191 < b1
   · rw [if_pos h6]
   rw [if_neg h6, if_pos (by omega)]
 simp only [if_neg h3']
 have hn239 : (decide ((b0 : Int) = 239)) = false := (by rw [decide_eq_false_iff_not]; omega); rw [if_neg (by omega : ¬ (b0 / 16 = 14 ∧ (1 < s.size ∧ b1 / 64 = 2) ∧ (2 < s.size ∧ b2 / 64 = 2)))]; by_cases h4 : b0 / 8 = 30 ∧ (1 < s.size ∧ b1 / 64 = 2) ∧ (2 < s.size ∧ b2 / 64 = 2) ∧ (3 < s.size ∧ b3 / 64 = 2)
 · rw [if_pos h4, if_neg (by omega : ¬ (248 ≤ (b0 : Int) ∨ s.size < 4)), if_neg (by omega : ¬ (b1 < 128 ∨ 191 < b1)), if_neg (by omega : ¬ (b2 < 128 ∨ 191 < b2)), if_neg (by omega : ¬ (b3 < 128 ∨ 191 < b3))]
   by_cases h5 : b0 % 8 * 262144 + b1 % 64 * 4096 + b2 % 64 * 64 + b3 % 64 ≥ 65536 ∧ (b0 % 8 * 262144 + b1 % 64 * 4096 + b2 % 64 * 64 + b3 % 64 < 55296 ∨ (57344 ≤ b0 % 8 * 262144 + b1 % 64 * 4096 + b2 % 64 * 64 + b3 % 64 ∧ b0 % 8 * 262144 + b1 % 64 * 4096 + b2 % 64 * 64 + b3 % 64 ≤ 1114111))
   · right
     rw [if_pos h5]; dsimp only; rw [if_neg (by omega)]; refine ⟨?_, by omega, rfl, by omega, fun k h6 h7 => ?_⟩
     · have : (b0 % 8 * 262144 + b1 % 64 * 4096 + b2 % 64 * 64 + b3 % 64 == 65533) = false := by rw [beq_eq_false_iff_ne]; omega
       rw [this]; rfl
     rw [hbt k h6 (by omega)]
     have : k = 1 ∨ k = 2 ∨ k = 3 := (by omega); rcases this with rfl | rfl | rfl <;> simp <;> omega
   left
   rw [if_neg h5]; dsimp only; rw [if_pos (by omega)]; simp [hn239]
 left
 rw [if_neg h4]; refine ⟨by simp [hn239], ?_⟩; by_cases h5 : 248 ≤ (b0 : Int) ∨ s.size < 4
 · rw [if_pos h5]
 rw [if_neg h5]
 by_cases h6 : b1 < 128 ∨ 191 < b1
 · rw [if_pos h6]
 rw [if_neg h6]
 by_cases h7 : b2 < 128 ∨ 191 < b2
 · rw [if_pos h7]
 rw [if_neg h7, if_pos (by omega)]
def refK (s : ByteArray) : Nat → Nat → Bool
 | 0, _ => true
 | g + 1, i => if i < s.size then (if oneOf (s.extract i s.size) = 0 ∨ bt s i = 0 then false else refK s g (i + oneOf (s.extract i s.size))) else true
def znh (s : ByteArray) : Int := if s.size = 0 then 30 else if refK s s.size 0 = false then 30 else if 64 < s.size then 31 else 0
theorem one_at (s : ByteArray) (i : Nat) (h : i < s.size) : (zej s i = true ∧ oneOf (s.extract i s.size) = 0) ∨
 (zej s i = false ∧ 1 ≤ oneOf (s.extract i s.size) ∧ oneOf (s.extract i s.size) = (Utf8.decode s i).2 ∧ i + oneOf (s.extract i s.size) ≤ s.size ∧ ∀ k, i + 1 ≤ k → k < i + oneOf (s.extract i s.size) → bt s k ≠ 0) := by
 have hz : (s.extract i s.size).size = s.size - i := by simp
 have h1 := zqr (s.extract i s.size) (by omega); rw [Go.Lib.tail_decode] at h1; unfold zej; rcases h1 with h1 | ⟨h1, h2, h3, h4, h5⟩
 · exact .inl h1
 refine .inr ⟨h1, h2, h3, by omega, fun k hk1 hk2 => ?_⟩
 have := h5 (k - i) (by omega) (by omega); rw [zrl] at this; rw [show k = i + (k - i) by omega]; exact this
theorem zjg (s : ByteArray) : ∀ (g i : Nat) (n : Int), i ≤ s.size → s.size ≤ i + g → 0 ≤ n →
 (refK s g i = true → n ≤ runesK s g i n ∧ (i < s.size → n < runesK s g i n) ∧ ∀ k, i ≤ k → k < s.size → bt s k ≠ 0) ∧
 (refK s g i = false → runesK s g i n = -1 ∨ ∃ k, i ≤ k ∧ k < s.size ∧ bt s k = 0)
 | 0, i, n, h, hg, hn => by
   refine ⟨fun _ => ⟨by simp [runesK], fun h' => by omega, fun k h1 h2 => by omega⟩, fun h' => by simp [refK] at h'⟩
 | g + 1, i, n, h, hg, hn => by
   unfold refK runesK; by_cases hi : i < s.size
   · simp only [if_pos hi]
     rcases one_at s i hi with ⟨h1, h2⟩ | ⟨h1, h2, h3, h4, h5⟩
     · rw [if_pos (.inl h2), h1]
       exact ⟨fun h' => by simp at h', fun _ => .inl (by simp)⟩
     by_cases hb : bt s i = 0
     · rw [if_pos (.inr hb)]
       exact ⟨fun h' => by simp at h', fun _ => .inr ⟨i, Nat.le_refl _, hi, hb⟩⟩
     rw [if_neg (fun h' => h'.elim (fun e => by omega) (fun e => hb e)), h1, if_neg (by simp), ← h3]
     obtain ⟨ha, hc⟩ := zjg s g (i + oneOf (s.extract i s.size)) (n + 1) h4 (by omega) (by omega); refine ⟨fun hr => ?_, fun hr => ?_⟩
     · obtain ⟨q1, q2, q3⟩ := ha hr
       refine ⟨by omega, fun _ => by omega, fun k hk1 hk2 => ?_⟩; by_cases e : k = i
       · rw [e]; exact hb
       by_cases e' : k < i + oneOf (s.extract i s.size)
       · exact h5 k (by omega) e'
       exact q3 k (by omega) hk2
     rcases hc hr with q | ⟨k, q1, q2, q3⟩
     · exact .inl q
     exact .inr ⟨k, by omega, q2, q3⟩
   rw [if_neg hi, if_neg hi]
   exact ⟨fun _ => ⟨Int.le_refl _, fun h' => absurd h' hi, fun k h1 h2 => by omega⟩, fun h' => by simp at h'⟩
theorem zid (s : ByteArray) : 0 ≤ firstIdx s 0 ↔ ∃ k, k < s.size ∧ bt s k = 0 := by
 have h := firstIdx_nonneg s 0; have h1 : (0 ≤ firstIdx s 0) ↔ s.data.toList.any (· == 0) = true := by rw [← h, decide_eq_true_eq]
 rw [h1, List.any_eq_true]
 constructor
 · rintro ⟨x, hx, h0⟩
   obtain ⟨k, hk⟩ := List.mem_iff_getElem?.1 hx; have hlt : k < s.data.toList.length := (List.getElem?_eq_some_iff.1 hk).1; refine ⟨k, by simpa using hlt, ?_⟩; rw [zda, ← Go.Lib.getD_get!', List.getD, hk]; rw [beq_iff_eq] at h0; subst h0
   rfl
 rintro ⟨k, hk, h0⟩
 have hlt : k < s.data.toList.length := (by simpa using hk); refine ⟨s.data.toList[k], List.getElem_mem hlt, ?_⟩; rw [zda, ← Go.Lib.getD_get!', List.getD, List.getElem?_eq_getElem hlt] at h0; rw [beq_iff_eq]; have : (s.data.toList[k]).toNat = 0 := (by simpa using h0); exact UInt8.toNat_inj.1 (by simpa using this)
theorem zqo (s : ByteArray) : znh s = keyE s := by
 unfold znh keyE runes; obtain ⟨ha, hb⟩ := zjg s s.size 0 0 (by omega) (by omega) (by omega); by_cases h0 : s.size = 0
 · have h1 : runesK s s.size 0 0 < 1 := by rw [h0]; exact Int.zero_lt_one
   rw [if_pos h0, if_pos (.inl h1)]
 rw [if_neg h0]
 cases hr : refK s s.size 0 with
 | true =>
   obtain ⟨q1, q2, q3⟩ := ha hr; have := q2 (by omega); rw [if_neg (by simp), if_neg (c := _ ∨ _)]; rintro (h | h)
   · omega
   obtain ⟨k, hk, h'⟩ := (zid s).1 h
   exact q3 k (by omega) hk h'
 | false =>
   rw [if_pos rfl, if_pos]; rcases hb hr with q | ⟨k, q1, q2, q3⟩
   · left; omega
   right; exact (zid s).2 ⟨k, q2, q3⟩
theorem zwv (s : ByteArray) (h : bt s 0 < 128) (hs : 0 < s.size) : oneOf s = 1 := by
 have h0 := bt_nonneg s 0; have hN : leadN (bt s 0) = 1 := by unfold leadN; rw [if_neg (by omega), if_neg (by omega), if_neg (by omega)]
 have hV : leadV (bt s 0) = bt s 0 := by unfold leadV; rw [if_neg (by omega), if_neg (by omega), if_neg (by omega)]
 have hL : leadL (bt s 0) = 0 := by unfold leadL; rw [if_neg (by omega), if_neg (by omega), if_neg (by omega)]
 unfold oneOf; rw [hN, hV, hL, if_neg (by omega), if_neg (by omega)]
 show (if bt s 0 < 0 ∨ 1114111 < bt s 0 ∨ (55296 ≤ bt s 0 ∧ bt s 0 ≤ 57343) then 0 else 1) = 1
 rw [if_neg (by omega)]
theorem zwu (s : ByteArray) (h : 128 ≤ bt s 0) (h' : bt s 0 < 192) : oneOf s = 0 := by
 unfold oneOf; rw [if_pos ⟨h, h'⟩]
theorem zve (s : ByteArray) (h : 248 ≤ bt s 0) : oneOf s = 0 := by
 unfold oneOf; rw [if_neg (by omega), if_pos (.inl h)]
theorem zkb (s : ByteArray) (n : Nat) (v0 least : Int) (hN : leadN (bt s 0) = n) (hV : leadV (bt s 0) = v0) (hL : leadL (bt s 0) = least) (h1 : 192 ≤ bt s 0) (h2 : bt s 0 < 248) :
 oneOf s = if s.size < n then 0 else match contK s (n - 1) 1 v0 with
  | none => 0
  | some v => if v < least ∨ 1114111 < v ∨ (55296 ≤ v ∧ v ≤ 57343) then 0 else n := by
 unfold oneOf; rw [hN, hV, hL, if_neg (by omega)]; by_cases h : s.size < n
 · rw [if_pos (.inr h), if_pos h]
 rw [if_neg (by omega), if_neg h]; try rfl
theorem zkk (s : ByteArray) (g i : Nat) (v : Int) (h : bt s i < 128 ∨ 191 < bt s i) : contK s (g + 1) i v = none := by
 rw [contK]; rw [if_pos h]
theorem zkl (s : ByteArray) (g i : Nat) (v : Int) (h : ¬ (bt s i < 128 ∨ 191 < bt s i)) : contK s (g + 1) i v = contK s g (i + 1) (v * 64 + bt s i - 128) := by
 rw [contK]; rw [if_neg h]
set_option maxHeartbeats 8000000 in
theorem zqs (w : World) (s : ByteArray) (hs : 0 < s.size) : Calls Tryz.prog 164 #[.string s] w fun e w' => e = .returned (.int .i64 (oneOf s : Int)) ∧ w = w' := by
 have hb := get_bt s; have hc0 := bt_nonneg s 0; have hc1 := bt_le s 0; have hsz : (0 : Int) < (s.size : Int) := by omega
 by_cases a1 : bt s 0 < 128
 · have e1 := zwv s a1 hs
   have E1 := H_ e1; clear e1; go_enter Tryz.func164, Tryz.ntmps164; go_wp2
   go_loopg [5, 7] 0 (fun g s5 s7 wr => g = 0 ∧ s5 = .int .i64 (bt s 0) ∧ s7 = .int .i64 1 ∧ w = wr)
   case atStart => exact ⟨rfl, rfl, rfl, rfl⟩
   case round =>
    obtain ⟨rfl, rfl, rfl, rfl⟩ := hrel; go_wp2; go_ret; exact ⟨by rw [E1.out]; rfl, rfl⟩
 by_cases a2 : bt s 0 < 192
 · have e1 := zwu s (by omega) a2
   have E1 := H_ e1; clear e1; go_enter Tryz.func164, Tryz.ntmps164; go_wp2; go_ret; exact ⟨by rw [E1.out]; rfl, rfl⟩
 by_cases a5 : 248 ≤ bt s 0
 · have e1 := zve s a5
   have E1 := H_ e1; clear e1; go_enter Tryz.func164, Tryz.ntmps164; go_wp2; go_ret; exact ⟨by rw [E1.out]; rfl, rfl⟩
 by_cases a3 : bt s 0 < 224
 · have e1 := zkb s 2 (bt s 0 - 192) 128 (by unfold leadN; rw [if_neg (by omega), if_neg (by omega), if_pos (by omega)]) (by unfold leadV; rw [if_neg (by omega), if_neg (by omega), if_pos (by omega)]) (by unfold leadL; rw [if_neg (by omega), if_neg (by omega), if_pos (by omega)]) (by omega) (by omega)
   have E1 := H_ e1; clear e1; by_cases hn : s.size < 2
   · have hn' : (s.size : Int) < 2 := by omega
     have e2 : oneOf s = 0 := (by rw [E1.out, if_pos hn]); have E2 := H_ e2; clear e2; go_enter Tryz.func164, Tryz.ntmps164; go_wp2; go_ret; exact ⟨by rw [E2.out]; rfl, rfl⟩
   have hn' : ¬ (s.size : Int) < 2 := by omega
   rw [if_neg hn] at E1; go_enter Tryz.func164, Tryz.ntmps164; go_wp2
   go_loopg [5, 7] 1 (fun g s5 s7 wr => ∃ (i : Nat) (v : Int), s5 = .int .i64 v ∧ s7 = .int .i64 i ∧ 1 ≤ i ∧ i + g = 2 ∧ 0 ≤ v ∧ (i = 1 → v ≤ 31) ∧ (i = 2 → v ≤ 2047) ∧ (i = 3 → v ≤ 131071) ∧ v ≤ 8388607 ∧ Hid (contK s 1 1 (bt s 0 - 192) = contK s g i v) ∧ w = wr)
   case atStart => exact ⟨1, bt s 0 - 192, rfl, rfl, by omega, by omega, by omega, by omega, by omega, by omega, by omega, H_ rfl, rfl⟩
   case round =>
    obtain ⟨i, v, rfl, rfl, hi1, hi, hv0, hv1, hv2, hv3, hv4, HK, rfl⟩ := hrel
    cases gk with
    | zero =>
      have hil : ¬ (i : Int) < 2 := (by omega); have e3 : oneOf s = if v < 128 ∨ 1114111 < v ∨ (55296 ≤ v ∧ v ≤ 57343) then 0 else 2 := (by rw [E1.out, HK.out]; rfl); have E3 := H_ e3; clear e3; clear hv1 hv2 hv3; by_cases t1 : v < 128
      · have e4 : oneOf s = 0 := by rw [E3.out, if_pos (by omega)]
        have E4 := H_ e4; clear e4; go_wp2; go_ret; exact ⟨by rw [E4.out]; rfl, rfl⟩
      by_cases t2 : 1114111 < v
      · have e4 : oneOf s = 0 := by rw [E3.out, if_pos (by omega)]
        have E4 := H_ e4; clear e4; go_wp2; go_ret; exact ⟨by rw [E4.out]; rfl, rfl⟩
      by_cases t3 : 55296 ≤ v
      · by_cases t4 : v ≤ 57343
        · have e4 : oneOf s = 0 := by rw [E3.out, if_pos (by omega)]
          have E4 := H_ e4; clear e4; go_wp2; go_ret; exact ⟨by rw [E4.out]; rfl, rfl⟩
        have e4 : oneOf s = 2 := by rw [E3.out, if_neg (by omega)]
        have E4 := H_ e4; clear e4; go_wp2; go_ret; exact ⟨by rw [E4.out]; rfl, rfl⟩
      have e4 : oneOf s = 2 := by rw [E3.out, if_neg (by omega)]
      have E4 := H_ e4; clear e4; go_wp2; go_ret; exact ⟨by rw [E4.out]; rfl, rfl⟩
    | succ g =>
      have hil : (i : Int) < 2 := (by omega); have his : (i : Int) < (s.size : Int) := (by omega); have his' : i < s.size := (by omega); have hd0 := bt_nonneg s i; have hd1 := bt_le s i; have hvb : v ≤ 131071 := (by omega); have N1 := H_ (zkk s g i v); have N2 := H_ (zkl s g i v); have hv1' : i = 1 → v * 64 + bt s i - 128 ≤ 2047 ∨ ¬ bt s i ≤ 191 := (by omega); have hv2' : i = 2 → v * 64 + bt s i - 128 ≤ 131071 ∨ ¬ bt s i ≤ 191 := (by omega); have HV1 := H_ hv1'; have HV2 := H_ hv2'; clear hv1 hv2 hv3 hv1' hv2'; by_cases t1 : bt s i < 128
      · have e4 : oneOf s = 0 := by rw [E1.out, HK.out, N1.out (.inl t1)]
        have E4 := H_ e4; clear e4; go_wp2; go_ret; exact ⟨by rw [E4.out]; rfl, rfl⟩
      by_cases t2 : 191 < bt s i
      · have e4 : oneOf s = 0 := by rw [E1.out, HK.out, N1.out (.inr t2)]
        have E4 := H_ e4; clear e4; go_wp2; go_ret; exact ⟨by rw [E4.out]; rfl, rfl⟩
      go_wp2; go_roundg g
      case rel => exact ⟨i + 1, v * 64 + bt s i - 128, by go_num, by go_num, by omega, by omega, by omega, by omega, fun h => by have := HV1.out (by omega); omega, fun h => by have := HV2.out (by omega); omega, by omega, H_ (by rw [HK.out, N2.out (by omega)]), rfl⟩
      case measure => omega
 by_cases a4 : bt s 0 < 240
 · have e1 := zkb s 3 (bt s 0 - 224) 2048 (by unfold leadN; rw [if_neg (by omega), if_pos (by omega)]) (by unfold leadV; rw [if_neg (by omega), if_pos (by omega)]) (by unfold leadL; rw [if_neg (by omega), if_pos (by omega)]) (by omega) (by omega)
   have E1 := H_ e1; clear e1; by_cases hn : s.size < 3
   · have hn' : (s.size : Int) < 3 := by omega
     have e2 : oneOf s = 0 := (by rw [E1.out, if_pos hn]); have E2 := H_ e2; clear e2; go_enter Tryz.func164, Tryz.ntmps164; go_wp2; go_ret; exact ⟨by rw [E2.out]; rfl, rfl⟩
   have hn' : ¬ (s.size : Int) < 3 := by omega
   rw [if_neg hn] at E1; go_enter Tryz.func164, Tryz.ntmps164; go_wp2
   go_loopg [5, 7] 2 (fun g s5 s7 wr => ∃ (i : Nat) (v : Int), s5 = .int .i64 v ∧ s7 = .int .i64 i ∧ 1 ≤ i ∧ i + g = 3 ∧ 0 ≤ v ∧ (i = 1 → v ≤ 31) ∧ (i = 2 → v ≤ 2047) ∧ (i = 3 → v ≤ 131071) ∧ v ≤ 8388607 ∧ Hid (contK s 2 1 (bt s 0 - 224) = contK s g i v) ∧ w = wr)
   case atStart => exact ⟨1, bt s 0 - 224, rfl, rfl, by omega, by omega, by omega, by omega, by omega, by omega, by omega, H_ rfl, rfl⟩
   case round =>
    obtain ⟨i, v, rfl, rfl, hi1, hi, hv0, hv1, hv2, hv3, hv4, HK, rfl⟩ := hrel
    cases gk with
    | zero =>
      have hil : ¬ (i : Int) < 3 := (by omega); have e3 : oneOf s = if v < 2048 ∨ 1114111 < v ∨ (55296 ≤ v ∧ v ≤ 57343) then 0 else 3 := (by rw [E1.out, HK.out]; rfl); have E3 := H_ e3; clear e3; clear hv1 hv2 hv3; by_cases t1 : v < 2048
      · have e4 : oneOf s = 0 := by rw [E3.out, if_pos (by omega)]
        have E4 := H_ e4; clear e4; go_wp2; go_ret; exact ⟨by rw [E4.out]; rfl, rfl⟩
      by_cases t2 : 1114111 < v
      · have e4 : oneOf s = 0 := by rw [E3.out, if_pos (by omega)]
        have E4 := H_ e4; clear e4; go_wp2; go_ret; exact ⟨by rw [E4.out]; rfl, rfl⟩
      by_cases t3 : 55296 ≤ v
      · by_cases t4 : v ≤ 57343
        · have e4 : oneOf s = 0 := by rw [E3.out, if_pos (by omega)]
          have E4 := H_ e4; clear e4; go_wp2; go_ret; exact ⟨by rw [E4.out]; rfl, rfl⟩
        have e4 : oneOf s = 3 := by rw [E3.out, if_neg (by omega)]
        have E4 := H_ e4; clear e4; go_wp2; go_ret; exact ⟨by rw [E4.out]; rfl, rfl⟩
      have e4 : oneOf s = 3 := by rw [E3.out, if_neg (by omega)]
      have E4 := H_ e4; clear e4; go_wp2; go_ret; exact ⟨by rw [E4.out]; rfl, rfl⟩
    | succ g =>
      have hil : (i : Int) < 3 := (by omega); have his : (i : Int) < (s.size : Int) := (by omega); have his' : i < s.size := (by omega); have hd0 := bt_nonneg s i; have hd1 := bt_le s i; have hvb : v ≤ 131071 := (by omega); have N1 := H_ (zkk s g i v); have N2 := H_ (zkl s g i v); have hv1' : i = 1 → v * 64 + bt s i - 128 ≤ 2047 ∨ ¬ bt s i ≤ 191 := (by omega); have hv2' : i = 2 → v * 64 + bt s i - 128 ≤ 131071 ∨ ¬ bt s i ≤ 191 := (by omega); have HV1 := H_ hv1'; have HV2 := H_ hv2'; clear hv1 hv2 hv3 hv1' hv2'; by_cases t1 : bt s i < 128
      · have e4 : oneOf s = 0 := by rw [E1.out, HK.out, N1.out (.inl t1)]
        have E4 := H_ e4; clear e4; go_wp2; go_ret; exact ⟨by rw [E4.out]; rfl, rfl⟩
      by_cases t2 : 191 < bt s i
      · have e4 : oneOf s = 0 := by rw [E1.out, HK.out, N1.out (.inr t2)]
        have E4 := H_ e4; clear e4; go_wp2; go_ret; exact ⟨by rw [E4.out]; rfl, rfl⟩
      go_wp2; go_roundg g
      case rel => exact ⟨i + 1, v * 64 + bt s i - 128, by go_num, by go_num, by omega, by omega, by omega, by omega, fun h => by have := HV1.out (by omega); omega, fun h => by have := HV2.out (by omega); omega, by omega, H_ (by rw [HK.out, N2.out (by omega)]), rfl⟩
      case measure => omega
 have e1 := zkb s 4 (bt s 0 - 240) 65536 (by unfold leadN; rw [if_pos (by omega)]) (by unfold leadV; rw [if_pos (by omega)]) (by unfold leadL; rw [if_pos (by omega)]) (by omega) (by omega); have E1 := H_ e1; clear e1; by_cases hn : s.size < 4
 · have hn' : (s.size : Int) < 4 := by omega
   have e2 : oneOf s = 0 := (by rw [E1.out, if_pos hn]); have E2 := H_ e2; clear e2; go_enter Tryz.func164, Tryz.ntmps164; go_wp2; go_ret; exact ⟨by rw [E2.out]; rfl, rfl⟩
 have hn' : ¬ (s.size : Int) < 4 := by omega
 rw [if_neg hn] at E1; go_enter Tryz.func164, Tryz.ntmps164; go_wp2
 go_loopg [5, 7] 3 (fun g s5 s7 wr => ∃ (i : Nat) (v : Int), s5 = .int .i64 v ∧ s7 = .int .i64 i ∧ 1 ≤ i ∧ i + g = 4 ∧ 0 ≤ v ∧ (i = 1 → v ≤ 31) ∧ (i = 2 → v ≤ 2047) ∧ (i = 3 → v ≤ 131071) ∧ v ≤ 8388607 ∧ Hid (contK s 3 1 (bt s 0 - 240) = contK s g i v) ∧ w = wr)
 case atStart => exact ⟨1, bt s 0 - 240, rfl, rfl, by omega, by omega, by omega, by omega, by omega, by omega, by omega, H_ rfl, rfl⟩
 case round =>
  obtain ⟨i, v, rfl, rfl, hi1, hi, hv0, hv1, hv2, hv3, hv4, HK, rfl⟩ := hrel
  cases gk with
  | zero =>
    have hil : ¬ (i : Int) < 4 := (by omega); have e3 : oneOf s = if v < 65536 ∨ 1114111 < v ∨ (55296 ≤ v ∧ v ≤ 57343) then 0 else 4 := (by rw [E1.out, HK.out]; rfl); have E3 := H_ e3; clear e3; clear hv1 hv2 hv3; by_cases t1 : v < 65536
    · have e4 : oneOf s = 0 := by rw [E3.out, if_pos (by omega)]
      have E4 := H_ e4; clear e4; go_wp2; go_ret; exact ⟨by rw [E4.out]; rfl, rfl⟩
    by_cases t2 : 1114111 < v
    · have e4 : oneOf s = 0 := by rw [E3.out, if_pos (by omega)]
      have E4 := H_ e4; clear e4; go_wp2; go_ret; exact ⟨by rw [E4.out]; rfl, rfl⟩
    by_cases t3 : 55296 ≤ v
    · by_cases t4 : v ≤ 57343
      · have e4 : oneOf s = 0 := by rw [E3.out, if_pos (by omega)]
        have E4 := H_ e4; clear e4; go_wp2; go_ret; exact ⟨by rw [E4.out]; rfl, rfl⟩
      have e4 : oneOf s = 4 := by rw [E3.out, if_neg (by omega)]
      have E4 := H_ e4; clear e4; go_wp2; go_ret; exact ⟨by rw [E4.out]; rfl, rfl⟩
    have e4 : oneOf s = 4 := by rw [E3.out, if_neg (by omega)]
    have E4 := H_ e4; clear e4; go_wp2; go_ret; exact ⟨by rw [E4.out]; rfl, rfl⟩
  | succ g =>
    have hil : (i : Int) < 4 := (by omega); have his : (i : Int) < (s.size : Int) := (by omega); have his' : i < s.size := (by omega); have hd0 := bt_nonneg s i; have hd1 := bt_le s i; have hvb : v ≤ 131071 := (by omega); have N1 := H_ (zkk s g i v); have N2 := H_ (zkl s g i v); have hv1' : i = 1 → v * 64 + bt s i - 128 ≤ 2047 ∨ ¬ bt s i ≤ 191 := (by omega); have hv2' : i = 2 → v * 64 + bt s i - 128 ≤ 131071 ∨ ¬ bt s i ≤ 191 := (by omega); have HV1 := H_ hv1'; have HV2 := H_ hv2'; clear hv1 hv2 hv3 hv1' hv2'; by_cases t1 : bt s i < 128
    · have e4 : oneOf s = 0 := by rw [E1.out, HK.out, N1.out (.inl t1)]
      have E4 := H_ e4; clear e4; go_wp2; go_ret; exact ⟨by rw [E4.out]; rfl, rfl⟩
    by_cases t2 : 191 < bt s i
    · have e4 : oneOf s = 0 := by rw [E1.out, HK.out, N1.out (.inr t2)]
      have E4 := H_ e4; clear e4; go_wp2; go_ret; exact ⟨by rw [E4.out]; rfl, rfl⟩
    go_wp2; go_roundg g
    case rel => exact ⟨i + 1, v * 64 + bt s i - 128, by go_num, by go_num, by omega, by omega, by omega, by omega, fun h => by have := HV1.out (by omega); omega, fun h => by have := HV2.out (by omega); omega, by omega, H_ (by rw [HK.out, N2.out (by omega)]), rfl⟩
    case measure => omega
end Go.Proofs.YthljnnjpmdgkoaaGreat