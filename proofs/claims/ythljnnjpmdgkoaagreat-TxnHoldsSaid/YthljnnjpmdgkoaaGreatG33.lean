/- Lemmas for the claim. Conditions stand in each. -/
import Derived.Test.YthljnnjpmdgkoaaGreatG20
import Derived.Test.YthljnnjpmdgkoaaGreatG21
import Derived.Test.YthljnnjpmdgkoaaGreatG32
import Derived.Test.YthljnnjpmdgkoaaGreatG18
import Derived.Test.YthljnnjpmdgkoaaGreatG16
import Derived.Test.YthljnnjpmdgkoaaGreatG14
import Derived.Test.YthljnnjpmdgkoaaGreatG29
import Derived.Deep.CutBlock
import Derived.Deep.RegionHeld3
import Derived.Deep.DeepCutAuto
namespace Go.Proofs.YthljnnjpmdgkoaaGreat
open Go Go.Proofs Go.RowKit
set_option maxRecDepth 100000
def lastL (l : List Kv) (key : ByteArray) : Kv := l.foldl (fun a y => if keq y.key key then y else a) kv0
theorem zqw {l : List Kv} {i : Nat} {y : Kv} (h : l[i]? = some y) (key : ByteArray) : lastL (l.take (i + 1)) key = if keq y.key key then y else lastL (l.take i) key := by
 unfold lastL; rw [List.take_add_one, h, List.foldl_append]
 rfl
theorem ztm {l : List Kv} (h : KSorted l) (key : ByteArray) : lastL l key = wasL l key := by
 have key1 : ∀ (l : List Kv) (a : Kv), (∀ y ∈ l, keq y.key key = false) → l.foldl (fun a y => if keq y.key key then y else a) a = a := by
  intro l
  induction l with
  | nil => intro a _; rfl
  | cons x l ih =>
    intro a ha; rw [List.foldl_cons, ha x List.mem_cons_self]; exact ih _ fun y hy => ha y (List.mem_cons_of_mem _ hy)
 unfold lastL wasL; generalize kv0 = z
 induction l generalizing z with
 | nil => rfl
 | cons x l ih =>
   obtain ⟨h1, h2⟩ := List.pairwise_cons.1 h; unfold hasL; rw [List.foldl_cons, List.find?_cons]
   cases hk : keq x.key key with
   | true =>
     simp only [if_true, Option.getD_some]; refine key1 l x fun y hy => ?_; have := h1 y hy; rw [zar.1 hk] at this; rw [zbv]; exact klt_ne this
   | false =>
     simp only [Bool.false_eq_true, if_false]; exact ih h2 z
def holdsD (D : Doc) (c : Cmp) : Bool := cmpE c == 0 && orderC c (wasL (D.at D.rev) c.key) == sgnI c.how 0
theorem Good.holds {k : Nat} {S : St} {D : Doc} (h : Good k S D) (c : Cmp) : holdsB S c = holdsD D c := by unfold holdsB holdsD; rw [h.seen]
theorem zuc {c : Cmp} (h : cmpE c = 0) : (c.what = 1 ∨ c.what = 2 ∨ c.what = 3 ∨ c.what = 4 ∨ c.what = 5) ∧ (c.what = 4 → c.number = 0) ∧ (c.what ≠ 4 → c.value = ⟨#[]⟩) := by
 unfold cmpE at h
 split at h
 · rename_i hk; exact absurd h hk
 split at h
 · cases h
 split at h
 · cases h
 split at h
 · cases h
 rename_i h1 h2 h3
 refine ⟨by omega, fun h4 => ?_, fun h4 => ?_⟩
 · rcases Decidable.em (c.number = 0) with h5 | h5
   · exact h5
   exact absurd (.inl ⟨h4, h5⟩) h3
 rcases Decidable.em (c.value.toList = []) with h5 | h5
 · exact zar.1 (by unfold keq; rw [h5, Lib.toList_data]; rfl)
 exact absurd (.inr ⟨h4, h5⟩) h3
def lessD (c : Cmp) (x : Kv) : Bool := orderC c x == -1
def sameD (c : Cmp) (x : Kv) : Bool := orderC c x == 0
theorem how_lt {c : Cmp} (x : Kv) (h : c.how < 0) : (orderC c x == sgnI c.how 0) = lessD c x := by unfold sgnI lessD; rw [if_pos h]
theorem how_eq {c : Cmp} (x : Kv) (h : c.how = 0) : (orderC c x == sgnI c.how 0) = sameD c x := by unfold sgnI sameD; rw [if_neg (by omega), if_neg (by omega)]
theorem how_gt {c : Cmp} (x : Kv) (h : 0 < c.how) : (orderC c x == sgnI c.how 0) = (!lessD c x && !sameD c x) := by
 unfold lessD sameD; rw [show sgnI c.how 0 = 1 by unfold sgnI; rw [if_neg (by omega), if_pos h]]; rcases zlp c x with e | e | e <;> rw [e] <;> rfl
theorem zsz {c : Cmp} (x : Kv) (h : c.what = 1 ∨ c.what = 2 ∨ c.what = 3 ∨ c.what = 5) : lessD c x = decide (sideN c x < c.number) ∧ sameD c x = (sideN c x == c.number) := by
 unfold lessD sameD orderC; rw [if_pos h]; unfold sgnI; by_cases h1 : sideN c x < c.number
 · rw [if_pos h1, decide_eq_true h1]
   exact ⟨rfl, (by rw [beq_eq_false_iff_ne.2 (by omega : sideN c x ≠ c.number)]; rfl)⟩
 rw [if_neg h1, decide_eq_false h1]
 by_cases h2 : c.number < sideN c x
 · rw [if_pos h2]
   exact ⟨rfl, (by rw [beq_eq_false_iff_ne.2 (by omega : sideN c x ≠ c.number)]; rfl)⟩
 rw [if_neg h2]
 exact ⟨rfl, (by rw [beq_iff_eq.2 (by omega : sideN c x = c.number)]; rfl)⟩
theorem zsy {c : Cmp} (x : Kv) (h : c.what = 4) : lessD c x = Op.bytesLess x.value.toList c.value.toList ∧ sameD c x = (x.value.toList == c.value.toList) := by
 unfold lessD sameD orderC; rw [if_neg (by omega)]; unfold sgnS; rcases zdx x.value c.value with h1 | h1 | h1
 · rw [if_pos h1]
   exact ⟨(show true = klt _ _ from h1.symm), (show false = keq _ _ from (klt_ne h1).symm)⟩
 · rw [h1, if_neg (by rw [zaz]; simp), if_neg (by rw [zaz]; simp)]
   exact ⟨(show false = klt _ _ from (zaz _).symm), (by simp)⟩
 rw [if_neg (by rw [zcd h1]; simp), if_pos h1]
 exact ⟨(show false = klt _ _ from (zcd h1).symm), (show false = keq _ _ from (by rw [zbv]; exact (klt_ne h1).symm))⟩
set_option maxHeartbeats 16000000 in
theorem zit (w : World) (D : Doc) (a1 a2 : Option Addr) (k1 k2 : Nat) (hD : DocR w D (.slice a1 D.kvs.length k1) (.slice a2 D.events.length k2)) (hs : KSorted D.kvs) (hl : D.kvs.length + D.events.length ≤ 100000000) (c : Cmp) (hks : c.key.size ≤ 1099511627776) :
 Calls Tryz.prog 32 #[docV D (.slice a1 D.kvs.length k1) (.slice a2 D.events.length k2), cmpV c] w fun e w' => e = .returned (.bool (holdsD D c)) ∧ Fr No w w' := by
 have hwr := fun W => zir W c hks; have hkl : 0 < D.kvs.length → ∀ b, (Value.slice a1 D.kvs.length k1).ownBlock = some b → b < w.heap.size := hD.kvs.lt zaf (by decide); have HKL := H_ hkl; clear hkl; have hat := fun W (h : Fr No w W) => zni W D _ _ (hD.fr0 h) hs hl D.rev; have hso := Doc.at_sorted hs D.rev
 have hall : (D.at D.rev).length ≤ 100000000 := by
  rw [← zqb]; have := zqa D D.rev D.events.length; omega
 have hlast := ztm hso c.key; have hdef : holdsD D c = (cmpE c == 0 && orderC c (wasL (D.at D.rev) c.key) == sgnI c.how 0) := rfl; generalize holdsD D c = hd at *; generalize D.at D.rev = M at *; generalize hx : wasL M c.key = x at *; have hless : ∀ x, lessD c x = lessD c x := fun _ => rfl; have hz := @zuc c; have hon := @zsz c x; have hot := @zsy c x; have hlt := @how_lt c x; have heq := @how_eq c x; have hgt := @how_gt c x; have hsi : sideN c x = if c.what = 1 then x.version else if c.what = 2 then x.create else if c.what = 3 then x.mod else x.lease := rfl; generalize (orderC c x == sgnI c.how 0) = oo at *; generalize lessD c x = lb at *; generalize sameD c x = sb at *; generalize sideN c x = sn at *; obtain ⟨c1, c2, c3, c4, c5⟩ := c; unfold docV cmpV at *; dsimp only at *; have HWR := H_ hwr
 have HAT := H_ hat; have HLAST := H_ hlast; have hb1 := zal (zad w (Obj.cells #[.int .i64 D.rev, .int .i64 D.mark, .slice a1 D.kvs.length k1, .slice a2 D.events.length k2] 30) _ rfl) (Obj.cells #[.string c1, .int .i64 c2, .int .i64 c3, .int .i64 c4, .string c5] 53); have hb2 := zad (w.alloc (Obj.cells #[.int .i64 D.rev, .int .i64 D.mark, .slice a1 D.kvs.length k1, .slice a2 D.events.length k2] 30)) (Obj.cells #[.string c1, .int .i64 c2, .int .i64 c3, .int .i64 c4, .string c5] 53) (w.heap.size + 1) (by simp); have hf2 : Fr No w ((w.alloc (Obj.cells #[.int .i64 D.rev, .int .i64 D.mark, .slice a1 D.kvs.length k1, .slice a2 D.events.length k2] 30)).alloc (Obj.cells #[.string c1, .int .i64 c2, .int .i64 c3, .int .i64 c4, .string c5] 53)) := ((Fr.refl No w).alloc _).alloc _; have HB1 := H_ hb1; have HB2 := H_ hb2; have HF2 := H_ hf2; clear hwr hat hlast hb1 hb2 hf2 hD hs hl hso hless hx
 generalize hE : cmpE _ = E at *; by_cases h0 : E = 0
 · subst h0
   obtain ⟨hw5, hn4, hv4⟩ := hz rfl; have hdo : hd = oo := (by rw [hdef]; rfl); subst hdo; have HON := H_ hon; have HOT := H_ hot; have HLT := H_ hlt; have HEQ := H_ heq; have HGT := H_ hgt; have HSI := H_ hsi; have HW5 := H_ hw5; have HN4 := H_ hn4; have HV4 := H_ hv4; clear hdef hz hon hot hlt heq hgt hsi hw5 hn4 hv4 hE; go_enter Tryz.func32, Tryz.ntmps32; go_upto_region 3 with (go_at_call 79; refine (HWR.out _).mono ?_; rintro e w1 ⟨rfl, hf1⟩); have hb1 := hf1.heap HB1.out id; have lb1 := zaa hb1; have hz1 := hf1.size; have b0 := cellAt hb1 0 rfl; have b1 := cellAt hb1 1 rfl; have b2 := cellAt hb1 2 rfl; have b3 := cellAt hb1 3 rfl; go_upto_region 5 with (go_at_call 80; refine (HAT.out _ ((HF2.out.trans0 hf1).alloc _)).mono ?_; rintro e w2 ⟨v, rfl, hv, hf2, how⟩); have hw12 : Fr No w1 w2 := ((Fr.refl No w1).alloc _).trans0 hf2
   have hb2 := hf2.heap (zal (hf1.heap HB2.out id) (Obj.cells #[.string ByteArray.empty, .string ByteArray.empty, .int .i64 0, .int .i64 0, .int .i64 0, .int .i64 0] 99)) id; have hb3 := hf2.heap (zad w1 (Obj.cells #[.string ByteArray.empty, .string ByteArray.empty, .int .i64 0, .int .i64 0, .int .i64 0, .int .i64 0] 99) _ rfl) id; have HV := H_ hv
   have hnx : 0 < M.length → ∀ b, v.ownBlock = some b → b ≠ w1.heap.size := fun hp b hb e => by
    rcases how with ⟨e1, e2⟩ | h2
    · rw [e2] at hp
      rw [e1] at hb; have := HKL.out hp b hb; omega
    have := h2 b hb
    simp at this; omega
   have HNX := H_ hnx; obtain ⟨va, vcap, rfl, hv1, hv2, hv3⟩ := hv.shape; have HV3 := H_ hv3; have HC2 := H_ hb2; have HX2 : Hid (w2.heap[w1.heap.size]? = some (.cells (kvC (lastL (M.take 0) c1)).toArray 99 (0, 0))) := H_ hb3; have HW2 := H_ (HF2.out.trans0 (hf1.trans0 hw12)); have hxc : w.heap.size + 1 < w1.heap.size := zaa (hf1.heap HB2.out id); clear hv hv3 hb2 hb3 hf2 hw12 hb1 lb1 hz1 hf1 b0 b1 b2 b3 HB1 HB2 hnx how HKL; go_wp2
   go_loopg [7] M.length (fun g s7 wr => ∃ i : Nat, s7 = .int .i64 i ∧ i + g = M.length ∧ Hid (wr.heap[w1.heap.size]? = some (.cells (kvC (lastL (M.take i) c1)).toArray 99 (0, 0))) ∧ Hid (Fr (fun b => b = w1.heap.size) w2 wr))
   case atStart => exact ⟨0, rfl, by simp, HX2, H_ (Fr.refl _ _)⟩
   case round =>
    obtain ⟨i, rfl, hi, HX, HF⟩ := hrel; have hc := HF.out.heap HC2.out (fun e => by have e' : w.heap.size + 1 = w1.heap.size := e; omega); have hx := HX.out; have lc := zaa hc; have lx := zaa hx
    cases gk with
    | zero =>
      have hil : ¬ (i : Int) < (M.length : Int) := (by omega); have hti : M.take i = M := List.take_of_length_le (by omega); rw [hti, HLAST.out] at hx; obtain ⟨x1, x2, x3, x4, x5, x6⟩ := x; have c_0 := cellAt hc 0 rfl; have c_1 := cellAt hc 1 rfl; have c_2 := cellAt hc 2 rfl; have c_3 := cellAt hc 3 rfl; have c_4 := cellAt hc 4 rfl; have x_1 : wr.cell? ⟨w1.heap.size, 1, none⟩ = some (.string x2) := cellAt hx 1 rfl; have x_2 : wr.cell? ⟨w1.heap.size, 2, none⟩ = some (.int .i64 x3) := cellAt hx 2 rfl; have x_3 : wr.cell? ⟨w1.heap.size, 3, none⟩ = some (.int .i64 x4) := cellAt hx 3 rfl; have x_4 : wr.cell? ⟨w1.heap.size, 4, none⟩ = some (.int .i64 x5) := cellAt hx 4 rfl; have x_5 : wr.cell? ⟨w1.heap.size, 5, none⟩ = some (.int .i64 x6) := cellAt hx 5 rfl; have HFW : Hid (Fr No w wr) := H_ (HW2.out.trans HF.out fun b hb e => by have e' : b = w1.heap.size := e; omega)
      clear hc hx HX HF HC2 HX2 HAT HWR HLAST hti; dsimp only at HSI; rcases HW5.out with rfl | rfl | rfl | rfl | rfl
      · have hn4 := HN4.out
        have hv4 := HV4.out; clear HN4 HV4 HW5; obtain rfl := hv4 (by decide); have HLB : Hid (lb = decide (x5 < c4)) := H_ (by rw [(HON.out (by simp)).1, HSI.out]; rfl); have HSB : Hid (sb = (x5 == c4)) := H_ (by rw [(HON.out (by simp)).2, HSI.out]; rfl); have e0 : (⟨#[]⟩ : ByteArray).toList = [] := (by rw [Lib.toList_data]); have hbe : Op.bytesLess x2.toList (⟨#[]⟩ : ByteArray).toList = false := zdl x2; have hbf : Op.bytesLess x2.toList [] = false := (by rw [e0] at hbe; exact hbe); clear e0; clear HON HOT HSI hn4 hv4; go_upto_region 20 with fail
        go_cut [9] (fun s9 wx => s9 = .bool lb ∧ wx = wr)
        case first =>
         cases hl2 : decide (x5 < c4) with
         | true =>
           go_wp2; go_meet
           case rel => exact ⟨by rw [HLB.out, hl2], rfl⟩
         | false =>
           go_wp2; go_meet
           case rel => exact ⟨by rw [HLB.out, hl2], rfl⟩
        case rest =>
         obtain ⟨rfl, rfl⟩ := hcut; go_upto_region 21 with fail
         go_cut [10] (fun s10 wx => s10 = .bool sb ∧ wx = wc)
         case first =>
          cases hl2 : (x5 == c4) with
          | true =>
            obtain ⟨bb, hb1⟩ : ∃ bb, x2.toList.isEmpty = bb := ⟨_, rfl⟩; have hb2 : (x2.toList == []) = bb := (by rw [← hb1]; cases x2.toList <;> rfl); have hb3 : (x2.toList == (⟨#[]⟩ : ByteArray).toList) = bb := (by rw [Lib.toList_data ⟨#[]⟩]; exact hb2); cases bb
            all_goals
             go_wp2; go_meet
             case rel => exact ⟨by rw [HSB.out, hl2], rfl⟩
          | false =>
            go_wp2; go_meet
            case rel => exact ⟨by rw [HSB.out, hl2], rfl⟩
         case rest =>
          obtain ⟨rfl, rfl⟩ := hcut; by_cases hh1 : c3 < 0
          · have hh2 : decide (c3 < 0) = true := decide_eq_true hh1
            have HD := H_ (HLT.out hh1); go_wp2; go_ret; exact ⟨by rw [HD.out]; rfl, HFW.out⟩
          have hh2 : decide (c3 < 0) = false := decide_eq_false hh1
          by_cases hh3 : c3 = 0
          · have hh4 : (c3 == 0) = true := beq_iff_eq.2 hh3
            have HD := H_ (HEQ.out hh3); go_wp2; go_ret; exact ⟨by rw [HD.out]; rfl, HFW.out⟩
          have hh4 : (c3 == 0) = false := beq_eq_false_iff_ne.2 hh3
          have HD := H_ (HGT.out (by omega))
          cases lb with
          | true =>
            go_wp2; go_ret; exact ⟨by rw [HD.out]; rfl, HFW.out⟩
          | false =>
            go_wp2; go_ret; exact ⟨by rw [HD.out]; rfl, HFW.out⟩
      · have hn4 := HN4.out
        have hv4 := HV4.out; clear HN4 HV4 HW5; obtain rfl := hv4 (by decide); have HLB : Hid (lb = decide (x3 < c4)) := H_ (by rw [(HON.out (by simp)).1, HSI.out]; rfl); have HSB : Hid (sb = (x3 == c4)) := H_ (by rw [(HON.out (by simp)).2, HSI.out]; rfl); have e0 : (⟨#[]⟩ : ByteArray).toList = [] := (by rw [Lib.toList_data]); have hbe : Op.bytesLess x2.toList (⟨#[]⟩ : ByteArray).toList = false := zdl x2; have hbf : Op.bytesLess x2.toList [] = false := (by rw [e0] at hbe; exact hbe); clear e0; clear HON HOT HSI hn4 hv4; go_upto_region 20 with fail
        go_cut [9] (fun s9 wx => s9 = .bool lb ∧ wx = wr)
        case first =>
         cases hl2 : decide (x3 < c4) with
         | true =>
           go_wp2; go_meet
           case rel => exact ⟨by rw [HLB.out, hl2], rfl⟩
         | false =>
           go_wp2; go_meet
           case rel => exact ⟨by rw [HLB.out, hl2], rfl⟩
        case rest =>
         obtain ⟨rfl, rfl⟩ := hcut; go_upto_region 21 with fail
         go_cut [10] (fun s10 wx => s10 = .bool sb ∧ wx = wc)
         case first =>
          cases hl2 : (x3 == c4) with
          | true =>
            obtain ⟨bb, hb1⟩ : ∃ bb, x2.toList.isEmpty = bb := ⟨_, rfl⟩; have hb2 : (x2.toList == []) = bb := (by rw [← hb1]; cases x2.toList <;> rfl); have hb3 : (x2.toList == (⟨#[]⟩ : ByteArray).toList) = bb := (by rw [Lib.toList_data ⟨#[]⟩]; exact hb2); cases bb
            all_goals
             go_wp2; go_meet
             case rel => exact ⟨by rw [HSB.out, hl2], rfl⟩
          | false =>
            go_wp2; go_meet
            case rel => exact ⟨by rw [HSB.out, hl2], rfl⟩
         case rest =>
          obtain ⟨rfl, rfl⟩ := hcut; by_cases hh1 : c3 < 0
          · have hh2 : decide (c3 < 0) = true := decide_eq_true hh1
            have HD := H_ (HLT.out hh1); go_wp2; go_ret; exact ⟨by rw [HD.out]; rfl, HFW.out⟩
          have hh2 : decide (c3 < 0) = false := decide_eq_false hh1
          by_cases hh3 : c3 = 0
          · have hh4 : (c3 == 0) = true := beq_iff_eq.2 hh3
            have HD := H_ (HEQ.out hh3); go_wp2; go_ret; exact ⟨by rw [HD.out]; rfl, HFW.out⟩
          have hh4 : (c3 == 0) = false := beq_eq_false_iff_ne.2 hh3
          have HD := H_ (HGT.out (by omega))
          cases lb with
          | true =>
            go_wp2; go_ret; exact ⟨by rw [HD.out]; rfl, HFW.out⟩
          | false =>
            go_wp2; go_ret; exact ⟨by rw [HD.out]; rfl, HFW.out⟩
      · have hn4 := HN4.out
        have hv4 := HV4.out; clear HN4 HV4 HW5; obtain rfl := hv4 (by decide); have HLB : Hid (lb = decide (x4 < c4)) := H_ (by rw [(HON.out (by simp)).1, HSI.out]; rfl); have HSB : Hid (sb = (x4 == c4)) := H_ (by rw [(HON.out (by simp)).2, HSI.out]; rfl); have e0 : (⟨#[]⟩ : ByteArray).toList = [] := (by rw [Lib.toList_data]); have hbe : Op.bytesLess x2.toList (⟨#[]⟩ : ByteArray).toList = false := zdl x2; have hbf : Op.bytesLess x2.toList [] = false := (by rw [e0] at hbe; exact hbe); clear e0; clear HON HOT HSI hn4 hv4; go_upto_region 20 with fail
        go_cut [9] (fun s9 wx => s9 = .bool lb ∧ wx = wr)
        case first =>
         cases hl2 : decide (x4 < c4) with
         | true =>
           go_wp2; go_meet
           case rel => exact ⟨by rw [HLB.out, hl2], rfl⟩
         | false =>
           go_wp2; go_meet
           case rel => exact ⟨by rw [HLB.out, hl2], rfl⟩
        case rest =>
         obtain ⟨rfl, rfl⟩ := hcut; go_upto_region 21 with fail
         go_cut [10] (fun s10 wx => s10 = .bool sb ∧ wx = wc)
         case first =>
          cases hl2 : (x4 == c4) with
          | true =>
            obtain ⟨bb, hb1⟩ : ∃ bb, x2.toList.isEmpty = bb := ⟨_, rfl⟩; have hb2 : (x2.toList == []) = bb := (by rw [← hb1]; cases x2.toList <;> rfl); have hb3 : (x2.toList == (⟨#[]⟩ : ByteArray).toList) = bb := (by rw [Lib.toList_data ⟨#[]⟩]; exact hb2); cases bb
            all_goals
             go_wp2; go_meet
             case rel => exact ⟨by rw [HSB.out, hl2], rfl⟩
          | false =>
            go_wp2; go_meet
            case rel => exact ⟨by rw [HSB.out, hl2], rfl⟩
         case rest =>
          obtain ⟨rfl, rfl⟩ := hcut; by_cases hh1 : c3 < 0
          · have hh2 : decide (c3 < 0) = true := decide_eq_true hh1
            have HD := H_ (HLT.out hh1); go_wp2; go_ret; exact ⟨by rw [HD.out]; rfl, HFW.out⟩
          have hh2 : decide (c3 < 0) = false := decide_eq_false hh1
          by_cases hh3 : c3 = 0
          · have hh4 : (c3 == 0) = true := beq_iff_eq.2 hh3
            have HD := H_ (HEQ.out hh3); go_wp2; go_ret; exact ⟨by rw [HD.out]; rfl, HFW.out⟩
          have hh4 : (c3 == 0) = false := beq_eq_false_iff_ne.2 hh3
          have HD := H_ (HGT.out (by omega))
          cases lb with
          | true =>
            go_wp2; go_ret; exact ⟨by rw [HD.out]; rfl, HFW.out⟩
          | false =>
            go_wp2; go_ret; exact ⟨by rw [HD.out]; rfl, HFW.out⟩
      · have hn4 := HN4.out
        have hv4 := HV4.out; clear HN4 HV4 HW5; obtain rfl := hn4 rfl; have HLB : Hid (lb = Op.bytesLess x2.toList c5.toList) := H_ (HOT.out rfl).1; have HSB : Hid (sb = (x2.toList == c5.toList)) := H_ (HOT.out rfl).2; clear HON HOT HSI hn4 hv4; go_upto_region 20 with fail
        go_cut [9] (fun s9 wx => s9 = .bool lb ∧ wx = wr)
        case first =>
         cases hbl : Op.bytesLess x2.toList c5.toList with
         | true =>
           go_wp2; go_meet
           case rel => exact ⟨by rw [HLB.out, hbl], rfl⟩
         | false =>
           go_wp2; go_meet
           case rel => exact ⟨by rw [HLB.out, hbl], rfl⟩
        case rest =>
         obtain ⟨rfl, rfl⟩ := hcut; go_upto_region 21 with fail
         go_cut [10] (fun s10 wx => s10 = .bool sb ∧ wx = wc)
         case first =>
          cases hbl : (x2.toList == c5.toList) with
          | true =>
            go_wp2; go_meet
            case rel => exact ⟨by rw [HSB.out, hbl], rfl⟩
          | false =>
            go_wp2; go_meet
            case rel => exact ⟨by rw [HSB.out, hbl], rfl⟩
         case rest =>
          obtain ⟨rfl, rfl⟩ := hcut; by_cases hh1 : c3 < 0
          · have hh2 : decide (c3 < 0) = true := decide_eq_true hh1
            have HD := H_ (HLT.out hh1); go_wp2; go_ret; exact ⟨by rw [HD.out]; rfl, HFW.out⟩
          have hh2 : decide (c3 < 0) = false := decide_eq_false hh1
          by_cases hh3 : c3 = 0
          · have hh4 : (c3 == 0) = true := beq_iff_eq.2 hh3
            have HD := H_ (HEQ.out hh3); go_wp2; go_ret; exact ⟨by rw [HD.out]; rfl, HFW.out⟩
          have hh4 : (c3 == 0) = false := beq_eq_false_iff_ne.2 hh3
          have HD := H_ (HGT.out (by omega))
          cases lb with
          | true =>
            go_wp2; go_ret; exact ⟨by rw [HD.out]; rfl, HFW.out⟩
          | false =>
            go_wp2; go_ret; exact ⟨by rw [HD.out]; rfl, HFW.out⟩
      have hn4 := HN4.out
      have hv4 := HV4.out; clear HN4 HV4 HW5; obtain rfl := hv4 (by decide); have HLB : Hid (lb = decide (x6 < c4)) := H_ (by rw [(HON.out (by simp)).1, HSI.out]; rfl); have HSB : Hid (sb = (x6 == c4)) := H_ (by rw [(HON.out (by simp)).2, HSI.out]; rfl); have e0 : (⟨#[]⟩ : ByteArray).toList = [] := (by rw [Lib.toList_data]); have hbe : Op.bytesLess x2.toList (⟨#[]⟩ : ByteArray).toList = false := zdl x2; have hbf : Op.bytesLess x2.toList [] = false := (by rw [e0] at hbe; exact hbe); clear e0; clear HON HOT HSI hn4 hv4; go_upto_region 20 with fail
      go_cut [9] (fun s9 wx => s9 = .bool lb ∧ wx = wr)
      case first =>
       cases hl2 : decide (x6 < c4) with
       | true =>
         go_wp2; go_meet
         case rel => exact ⟨by rw [HLB.out, hl2], rfl⟩
       | false =>
         go_wp2; go_meet
         case rel => exact ⟨by rw [HLB.out, hl2], rfl⟩
      case rest =>
       obtain ⟨rfl, rfl⟩ := hcut; go_upto_region 21 with fail
       go_cut [10] (fun s10 wx => s10 = .bool sb ∧ wx = wc)
       case first =>
        cases hl2 : (x6 == c4) with
        | true =>
          obtain ⟨bb, hb1⟩ : ∃ bb, x2.toList.isEmpty = bb := ⟨_, rfl⟩; have hb2 : (x2.toList == []) = bb := (by rw [← hb1]; cases x2.toList <;> rfl); have hb3 : (x2.toList == (⟨#[]⟩ : ByteArray).toList) = bb := (by rw [Lib.toList_data ⟨#[]⟩]; exact hb2); cases bb
          all_goals
           go_wp2; go_meet
           case rel => exact ⟨by rw [HSB.out, hl2], rfl⟩
        | false =>
          go_wp2; go_meet
          case rel => exact ⟨by rw [HSB.out, hl2], rfl⟩
       case rest =>
        obtain ⟨rfl, rfl⟩ := hcut; by_cases hh1 : c3 < 0
        · have hh2 : decide (c3 < 0) = true := decide_eq_true hh1
          have HD := H_ (HLT.out hh1); go_wp2; go_ret; exact ⟨by rw [HD.out]; rfl, HFW.out⟩
        have hh2 : decide (c3 < 0) = false := decide_eq_false hh1
        by_cases hh3 : c3 = 0
        · have hh4 : (c3 == 0) = true := beq_iff_eq.2 hh3
          have HD := H_ (HEQ.out hh3); go_wp2; go_ret; exact ⟨by rw [HD.out]; rfl, HFW.out⟩
        have hh4 : (c3 == 0) = false := beq_eq_false_iff_ne.2 hh3
        have HD := H_ (HGT.out (by omega))
        cases lb with
        | true =>
          go_wp2; go_ret; exact ⟨by rw [HD.out]; rfl, HFW.out⟩
        | false =>
          go_wp2; go_ret; exact ⟨by rw [HD.out]; rfl, HFW.out⟩
    | succ g =>
      have hil : (i : Int) < (M.length : Int) := (by omega); obtain ⟨y, hy⟩ : ∃ y, M[i]? = some y := ⟨_, List.getElem?_eq_getElem (by omega)⟩; obtain ⟨ga, go, rfl⟩ := HV3.out (by omega); have hst := zqw hy c1; have hvr := HV.out.fr HF.out fun b hb e => HNX.out (by omega) b hb e; have f0 := hvr.cell0 zaf i hy rfl; have f1 := hvr.cell zaf i 1 hy rfl; have f2 := hvr.cell zaf i 2 hy rfl; have f3 := hvr.cell zaf i 3 hy rfl; have f4 := hvr.cell zaf i 4 hy rfl; have f5 := hvr.cell zaf i 5 hy rfl; have lf := World.block_lt_of_cell? _ _ f0; have c_0 := cellAt hc 0 rfl; have HST := H_ hst; clear hy hvr hst hc; obtain ⟨y1, y2, y3, y4, y5, y6⟩ := y; dsimp only at f0 f1 f2 f3 f4 f5 HST
      cases hk : keq y1 c1 with
      | false =>
        rw [hk] at HST; have hk' : (y1.toList == c1.toList) = false := hk; clear hx; go_upto_region 8 with fail; refine wp_region_still_lit (by kernel_rfl) (by kernel_rfl) ?_; change wpStill _ _ wr.drew _ _ _
        repeat (refine (wpStill_step (fun K hK => ?_) : _); go_simp; refine hK _ ?_; clear hK K)
        refine (wpStill_nil ?_ : _); change Exit.then _ _ _ _ wr.drew; go_wp2; go_roundg g
        case rel => exact ⟨i + 1, by go_num, by omega, H_ (by rw [HST.out]; exact HX.out), H_ HF.out.drew⟩
        case measure => omega
      | true =>
        rw [hk] at HST; have hk' : (y1.toList == c1.toList) = true := hk; have hx1 : wr.drew.heap[w1.heap.size]? = some (.cells #[.string (lastL (M.take i) c1).key, .string (lastL (M.take i) c1).value, .int .i64 (lastL (M.take i) c1).create, .int .i64 (lastL (M.take i) c1).mod, .int .i64 (lastL (M.take i) c1).version, .int .i64 (lastL (M.take i) c1).lease] 99 (0, 0)) := hx; have hfz : ∀ i, wr.frozen? ⟨w1.heap.size, i, none⟩ = false := fun i => by unfold World.frozen?; dsimp only; rw [hx]; simp
        obtain ⟨g0, g1, g2, g3, g4, g5⟩ := cells6 hx1; have hfd : ∀ i, wr.drew.frozen? ⟨w1.heap.size, i, none⟩ = false := hfz; have HX1 := H_ hx1; clear hx hx1; go_upto_region 8 with fail; refine wp_region_still_lit (by kernel_rfl) (by kernel_rfl) ?_; change wpStill _ _ wr.drew _ _ _
        repeat (refine (wpStill_step (fun K hK => ?_) : _); go_simp; refine hK _ ?_; clear hK K)
        refine (wpStill_nil ?_ : _); change Exit.then _ _ _ _ wr.drew; have d0 : wr.drew.cell? ⟨ga, go + i * 6, none⟩ = some (.string y1) := f0; have d1 : wr.drew.cell? ⟨ga, go + i * 6 + 1, none⟩ = some (.string y2) := f1; have d2 : wr.drew.cell? ⟨ga, go + i * 6 + 2, none⟩ = some (.int .i64 y3) := f2; have d3 : wr.drew.cell? ⟨ga, go + i * 6 + 3, none⟩ = some (.int .i64 y4) := f3; have d4 : wr.drew.cell? ⟨ga, go + i * 6 + 4, none⟩ = some (.int .i64 y5) := f4; have d5 : wr.drew.cell? ⟨ga, go + i * 6 + 5, none⟩ = some (.int .i64 y6) := f5; have HFD := H_ HF.out.drew; have ld : ga < wr.drew.heap.size := lf; have ldx : w1.heap.size < wr.drew.heap.size := lx; clear f0 f1 f2 f3 f4 f5 lf lx hfz c_0 lc; generalize wr.drew = WD at *; obtain ⟨Z, hZ, hz6, hzf⟩ := zes (w := w) HX1.out ⟨y1, y2, y3, y4, y5, y6⟩
        have hFZ : Fr (fun b => b = w1.heap.size) WD Z := (by rw [← hZ]; exact ((((((Fr.refl _ WD).setAt 0 _).setAt 1 _).setAt 2 _).setAt 3 _).setAt 4 _).setAt 5 _); have HZ := H_ hZ; have HZ6 := H_ hz6; have HFZ := H_ (HFD.out.trans hFZ fun _ _ e => e); clear hZ hz6 hzf hFZ; go_wp2; rw [HZ.out]; go_roundg g
        case rel => exact ⟨i + 1, by go_num, by omega, H_ (by rw [HST.out, if_pos True.intro]; exact HZ6.out), HFZ⟩
        case measure => omega
 have h0' : (E == 0) = false := beq_eq_false_iff_ne.2 h0
 have h0n : (E != 0) = true := (by rw [bne, h0']; rfl); have hdo : hd = false := (by rw [hdef, h0']; rfl); have HDO := H_ hdo; clear hdef hz hon hot hlt heq hgt hsi hE hdo; go_enter Tryz.func32, Tryz.ntmps32; go_wp2_with (go_at_call 79; refine (HWR.out _).mono ?_; rintro e w1 ⟨rfl, hf1⟩); go_ret; exact ⟨by rw [HDO.out]; rfl, HF2.out.trans0 hf1⟩
theorem info198 : (Tryz.prog.info? 231).map (fun i => (i.zero, i.size, i.bytes)) = some (some (.agg #[.slice none 0 0, .slice none 0 0]), 2, 48) := by kernel_rfl
def nz0 : Nz := ⟨nd0, .slice none 0 0, .slice none 0 0⟩
theorem takeZ {Z : List Nz} : ndsZ (Z ++ [nz0]) = ndsZ Z ++ [nd0] := by unfold ndsZ; simp [nz0]
set_option maxHeartbeats 1000000 in
theorem zsg (w : World) (t : Nat) (A : Arr) (fl : List Nat) (root : Nat) (many : Int) (F : Nat → Prop) (h : TreeZ w t A fl root many F) (hA : A.length ≤ 1099511627) (hl : fl.length ≤ 1099511627) (hne : fl ≠ []) :
 Calls Tryz.prog 155 #[.pointer (some ⟨t, 0, none⟩)] w fun e w' => e = .returned (.int .i64 (takeI A fl : Int)) ∧ ∃ F', TreeZ w' t (takeA A fl) fl.dropLast root many F' ∧ Fr F w w' ∧ ∀ b, F' b → F b ∨ w.heap.size ≤ b := by
 obtain ⟨nv, fv, Z, h, rfl, hF⟩ := h; have c1 := h.obj.cell 1 rfl; have f1 := h.obj.free 1; have hpos : 0 < fl.length := List.length_pos_iff.2 hne; obtain ⟨a, cap, rfl, hc1, hc2, ha⟩ := h.free.shape; obtain ⟨fb, fo, rfl⟩ := ha hpos
 have hx : fl[fl.length - 1]? = some (fl.getLast hne) := by
  rw [List.getLast_eq_getElem]; exact List.getElem?_eq_getElem _
 have d0 := h.free.cell1 zah (fl.length - 1) hx rfl; have htI : takeI (ndsZ Z) fl = fl.getLast hne := by unfold takeI; rw [List.getLast?_eq_some_getLast hne]; rfl
 have htA : takeA (ndsZ Z) fl = ndsZ Z := by unfold takeA; rw [if_neg hne]
 have hs := h.free.take zah (fl.length - 1) (by omega); rw [← List.dropLast_eq_take] at hs; have hln : fl.dropLast.length = fl.length - 1 := by simp
 have HS : Hid (SlF w 3 1 nat1 (.slice (some ⟨fb, fo, none⟩) (fl.length - 1) cap) fl.dropLast) := H_ hs; have H := H_ h; have HI := H_ htI; have HTA := H_ htA; have HFF := H_ hF; generalize fl.getLast hne = x at *; have hz0 : (0 : Int) < (fl.length : Int) := by omega
 have hj1 : (0 : Int) ≤ (fl.length : Int) - 1 := by omega
 have hj2 : (fl.length : Int) - 1 ≤ (cap : Int) := by omega
 have hj3 : ((fl.length : Int) - 1).toNat = fl.length - 1 := by omega
 have hj4 : (fl.length : Int) - 1 < (fl.length : Int) := by omega
 have hj5 : (fl.length : Int) ≤ 1099511627 := by omega
 clear h hs htI htA hF hx ha hln; generalize hN : fl.length = n at *; go_enter Tryz.func155, Tryz.ntmps155; go_wp2; go_ret; have hset := H.out.setFree (w1 := w) (fl' := fl.dropLast) (fv' := .slice (some ⟨fb, fo, none⟩) (n - 1) cap) (Fr.refl _ w) HS.out (fun b e => .inl e); obtain ⟨q1, q2, q3⟩ := hset; refine ⟨by rw [HI.out]; rfl, _, ⟨_, _, Z, q1, HTA.out.symm, fun b => Iff.rfl⟩, q2.mono fun b _ e => (HFF.out b).2 ?_, fun b hb => ?_⟩
 · rcases e with e | e
   · exact .inl e
   exact .inr (.inr (.inl e))
 rcases q3 b hb with e | e
 · exact .inl ((HFF.out b).2 e)
 exact .inr e
set_option maxHeartbeats 1000000 in
theorem zsh (w : World) (t : Nat) (A : Arr) (root : Nat) (many : Int) (F : Nat → Prop) (h : TreeZ w t A [] root many F) (hA : A.length ≤ 1099511627) :
 Calls Tryz.prog 155 #[.pointer (some ⟨t, 0, none⟩)] w fun e w' => e = .returned (.int .i64 (takeI A [] : Int)) ∧ ∃ F', TreeZ w' t (takeA A []) [] root many F' ∧ Fr F w w' ∧ ∀ b, F' b → F b ∨ w.heap.size ≤ b := by
 obtain ⟨nv, fv, Z, h, rfl, hF⟩ := h; rw [zau] at hA; have c0 := h.obj.cell 0 rfl; have c1 := h.obj.cell 1 rfl; have f0 := h.obj.free 0; obtain ⟨i0, hi0, hz0, hz1, hz2⟩ := info_parts info198; obtain ⟨a, cap, rfl, hc1, hc2, ha⟩ := h.free.shape; have hnew := zax w [.slice none 0 0, .slice none 0 0] 231 (0, 0); have H := H_ h; have HFF := H_ hF; have HN := H_ h.nodes; have hlt := h.obj.lt; have hnt : ¬ nv.ownBlock = some t := h.a1.1; clear h hF ha; go_enter Tryz.func155, Tryz.ntmps155; go_wp2_with (at_builtin; refine zap rfl _ _ 175 rfl 231 i0 _ 2 48 Tryz.underlying175 hi0 hz0 hz1 hz2 rfl (by decide) nv Z rfl (HN.out.alloc _) w.heap.size 1 nz0 rfl (by simpa [nzC, nz0] using hnew) rfl (by intro u hu; simp [nzC, nz0] at hu; subst hu; rfl) (by unfold maxLen; omega) (by omega) ?_); intro g o cap' w1 hs1 hg1 hb1 hlt1
 have hF1 : Fr (fun b => nv.ownBlock = some b) w w1 := (((Fr.refl _ w).alloc _).grown hg1 fun k hk => .inl hk); have e0 := hF1.cell c0 hnt; have e1 := hF1.cell c1 hnt; have g0 := hF1.free c0 f0 hnt; have HS1 := H_ hs1; have HB1 := H_ hb1; have HF1 := H_ hF1; clear hs1 hg1 hb1 hF1 c0 c1 f0 hnew; have hj : (0 : Int) ≤ (Z.length : Int) := by omega
 go_wp2; go_ret; have hL : (Z ++ [nz0]).length = Z.length + 1 := by simp
 have hset := H.out.snoc (w1 := w1) (nv' := .slice (some ⟨g, o, none⟩) (Z.length + 1) cap') HF1.out HS1.out fun b e => by
  obtain rfl : g = b := by simpa [Value.ownBlock] using e
  rcases HB1.out with e | e
  · exact .inl e
  right; omega
 obtain ⟨q1, q2, q3⟩ := hset; refine ⟨?_, _, ⟨_, _, _, q1, by unfold takeA; rw [if_pos rfl]; exact takeZ, fun b => Iff.rfl⟩, q2.mono fun b _ e => (HFF.out b).2 ?_, fun b hb => ?_⟩
 · unfold takeI
   rw [List.getLast?_nil, zau]
   rfl
 · rcases e with e | e
   · exact .inl e
   exact .inr (.inl e)
 rcases q3 b hb with e | e
 · exact .inl ((HFF.out b).2 e)
 exact .inr e
theorem zjd (w : World) (t : Nat) (A : Arr) (fl : List Nat) (root : Nat) (many : Int) (F : Nat → Prop) (h : TreeZ w t A fl root many F) (hA : A.length ≤ 1099511627) (hl : fl.length ≤ 1099511627) :
 Calls Tryz.prog 155 #[.pointer (some ⟨t, 0, none⟩)] w fun e w' => e = .returned (.int .i64 (takeI A fl : Int)) ∧ ∃ F', TreeZ w' t (takeA A fl) fl.dropLast root many F' ∧ Fr F w w' ∧ ∀ b, F' b → F b ∨ w.heap.size ≤ b := by
 by_cases hne : fl = []
 · subst hne; exact zsh w t A root many F h hA
 exact zsg w t A fl root many F h hA hl hne
set_option maxHeartbeats 1000000 in
theorem zjj (w : World) (t : Nat) (A : Arr) (fl : List Nat) (root : Nat) (many : Int) (F : Nat → Prop) (h : TreeZ w t A fl root many F) (at_ : Nat) (hat : at_ < A.length) (hA : A.length ≤ 1099511627) (hl : fl.length ≤ 1099511627) :
 Calls Tryz.prog 149 #[.pointer (some ⟨t, 0, none⟩), .int .i64 at_] w fun e w' => e = .returned (.tuple #[]) ∧ ∃ F', TreeZ w' t (A.set at_ nd0) (fl ++ [at_]) root many F' ∧ Fr F w w' ∧ ∀ b, F' b → F b ∨ w.heap.size ≤ b := by
 obtain ⟨nv, fv, Z, h, rfl, hF⟩ := h
 obtain ⟨z, hz, _⟩ := zcm hat
 rw [zau] at hA hat; have c0 := h.obj.cell 0 rfl; have c1 := h.obj.cell 1 rfl; have f1 := h.obj.free 1; obtain ⟨i0, hi0, hz0, hz1, hz2⟩ := info_parts info3; obtain ⟨a, cap, rfl, hc1, hc2, ha⟩ := h.nodes.shape; obtain ⟨nb, no, rfl⟩ := ha (by omega); have n0 := h.nodes.cell0 zbp at_ hz rfl; have n1 := h.nodes.cell zbp at_ 1 hz rfl; have nf := h.nodes.free (no + at_ * 2); have nf1 := h.nodes.free (no + at_ * 2 + 1); have htn : t ≠ nb := fun e => h.a1.1 (by rw [e]; rfl); have hp := h.setPairs (w1 := w) (pv' := .slice none 0 0) (P' := []) at_ z hz (Fr.refl _ w) (SlF.nil _ _ _ _) (fun b e => by simp [Value.ownBlock] at e); obtain ⟨p1, p2, p3⟩ := hp
 have hz2' : (Z.set at_ ⟨⟨[], z.nd.kids⟩, .slice none 0 0, z.kv⟩)[at_]? = some ⟨⟨[], z.nd.kids⟩, .slice none 0 0, z.kv⟩ := List.getElem?_set_self hat; have p1' : TreeR (w.setCell ⟨nb, no + at_ * 2, none⟩ (.slice none 0 0)) t (.slice (some ⟨nb, no, none⟩) (Z.set at_ ⟨⟨[], z.nd.kids⟩, .slice none 0 0, z.kv⟩).length cap) fv (Z.set at_ ⟨⟨[], z.nd.kids⟩, .slice none 0 0, z.kv⟩) fl root many := by rw [List.length_set]; exact p1
 have hk := p1'.setKids (w1 := w.setCell ⟨nb, no + at_ * 2, none⟩ (.slice none 0 0)) (kv' := .slice none 0 0) (K' := []) at_ _ hz2' (Fr.refl _ _) (SlF.nil _ _ _ _) (fun b e => by simp [Value.ownBlock] at e); obtain ⟨k1, k2, k3⟩ := hk; rw [List.set_set, List.length_set] at k1
 have hFz : ∀ b, treeF t (.slice (some ⟨nb, no, none⟩) Z.length cap) fv (Z.set at_ nz0) b → treeF t (.slice (some ⟨nb, no, none⟩) Z.length cap) fv Z b ∨ w.heap.size ≤ b :=
  zbc hz fun b hb => by rcases hb with e | e <;> simp [Value.ownBlock, nz0] at e
 have hK1 : TreeR ((w.setCell ⟨nb, no + at_ * 2, none⟩ (.slice none 0 0)).setCell ⟨nb, no + at_ * 2 + 1, none⟩ (.slice none 0 0)) t (.slice (some ⟨nb, no, none⟩) Z.length cap) fv (Z.set at_ nz0) fl root many := k1
 have hFR : Fr F w ((w.setCell ⟨nb, no + at_ * 2, none⟩ (.slice none 0 0)).setCell ⟨nb, no + at_ * 2 + 1, none⟩ (.slice none 0 0)) := by
  refine (((Fr.refl F w).setCell (p := ⟨nb, no + at_ * 2, none⟩) (.inl ?_) _).setCell (p := ⟨nb, no + at_ * 2 + 1, none⟩) (.inl ?_) _) <;> exact (hF nb).2 (.inr (.inl rfl))
 have hlnb := h.nodes.lt nb rfl; have hlt := h.obj.lt; have H := H_ hK1; have HFZ := H_ hFz; have HFF := H_ hF; have HFR := H_ hFR; clear h hF ha p1 p2 p3 p1' k1 k2 k3 hK1 hFz hFR hz hz2'; have hj : (at_ : Int) < (Z.length : Int) := by omega
 have hnew := zax ((w.setCell ⟨nb, no + at_ * 2, none⟩ (.slice none 0 0)).setCell ⟨nb, no + at_ * 2 + 1, none⟩ (.slice none 0 0)) [.int .i64 (at_ : Int)] 3 (0, 0); have hsz : ((w.setCell ⟨nb, no + at_ * 2, none⟩ (.slice none 0 0)).setCell ⟨nb, no + at_ * 2 + 1, none⟩ (.slice none 0 0)).heap.size = w.heap.size := by simp
 rw [hsz] at hnew; have HSZ := H_ hsz; clear hsz; go_enter Tryz.func149, Tryz.ntmps149; go_wp2_with (at_builtin; refine zap rfl _ _ 76 rfl 3 i0 _ 1 8 Tryz.underlying76 hi0 hz0 hz1 hz2 rfl (by decide) fv fl rfl (H.out.free.alloc _) w.heap.size 1 at_ rfl (by simpa [nat1] using hnew) rfl (by intro u hu; simp [nat1] at hu; subst hu; rfl) (by unfold maxLen; omega) (by omega) ?_); generalize ((w.setCell ⟨nb, no + at_ * 2, none⟩ (.slice none 0 0)).setCell ⟨nb, no + at_ * 2 + 1, none⟩ (.slice none 0 0)) = W1 at *; intro g o cap' w1 hs1 hg1 hb1 hlt1; have hF1 : Fr (fun b => fv.ownBlock = some b) W1 w1 := (((Fr.refl _ W1).alloc _).grown hg1 fun k hk => .inl hk); have hnt : ¬ fv.ownBlock = some t := H.out.a1.2.1; have e1 := hF1.cell (H.out.obj.cell 1 rfl) hnt; have g1 := hF1.free (H.out.obj.cell 1 rfl) (H.out.obj.free 1) hnt; have HS1 := H_ hs1; have HB1 := H_ hb1; have HF1 := H_ hF1
 clear hs1 hg1 hb1 hF1 c0 c1 f1 hnew n0 n1 nf nf1; go_wp2; refine bodyPost_end (results_none rfl _ _ _) rfl ⟨rfl, ?_⟩
 have hset := H.out.setFree (w1 := w1) (fl' := fl ++ [at_]) (fv' := .slice (some ⟨g, o, none⟩) (fl.length + 1) cap') HF1.out HS1.out fun b e => by
  obtain rfl : g = b := by simpa [Value.ownBlock] using e
  rcases HB1.out with e | e
  · exact .inl e
  right; have := HSZ.out; omega
 obtain ⟨q1, q2, q3⟩ := hset; refine ⟨_, ⟨_, _, _, q1, by rw [zaw]; rfl, fun b => Iff.rfl⟩, HFR.out.trans q2 fun b hb e => (HFF.out b).2 ?_, fun b hb => ?_⟩
 · rcases e with e | e
   · exact .inl e
   exact .inr (.inr (.inl e))
 rcases q3 b hb with e | e
 · rcases HFZ.out b e with e | e
   · exact .inl ((HFF.out b).2 e)
   exact .inr e
 right; have := HSZ.out; omega
end Go.Proofs.YthljnnjpmdgkoaaGreat