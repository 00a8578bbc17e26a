/- Whether a compare holds: the program's txn.Holds. The condition: histories are small (HistOk). -/
import Derived.Test.YthljnnjpmdgkoaaTxn2
import Derived.Test.YthljnnjpmdgkoaaRng
namespace Go.Proofs.Ythljnnjpmdgkoaa
open Go Go.Proofs Go.RowKit
set_option maxRecDepth 100000

def rg0 (key : ByteArray) : Rg := ⟨key, ByteArray.empty, 0, 0, false, false, false⟩
def onlyL : List Kv → Kv
  | [x] => x
  | _ => kv0
/-- What a compare looks at. -/
def seenS (S : St) (key : ByteArray) : Kv := onlyL (allL S (rg0 key) S.rev)
def orderC (c : Cmp) (x : Kv) : Int := if c.what = 1 ∨ c.what = 2 ∨ c.what = 3 ∨ c.what = 5 then sgnI (sideN c x) c.number else sgnS x.value c.value
/-- Does a compare hold? -/
def holdsB (S : St) (c : Cmp) : Bool := cmpE c == 0 && orderC c (seenS S c.key) == sgnI c.how 0

theorem Holds_nil (w : World) (c : Cmp) : Calls Try.prog 16 #[.pointer none, cmpV c] w fun e w' => e = .returned (.bool false) ∧ Fr No w w' := by
  obtain ⟨c1, c2, c3, c4, c5⟩ := c
  unfold cmpV
  dsimp only
  go_enter Try.func16, Try.ntmps16
  go_wp2
  go_ret
  exact ⟨rfl, (Fr.refl No w).alloc _⟩

theorem Holds_bad (w : World) (s : Nat) (c : Cmp) (hs : c.key.size ≤ 1099511627776) (hE : cmpE c ≠ 0) : Calls Try.prog 16 #[.pointer (some ⟨s, 0, none⟩), cmpV c] w fun e w' => e = .returned (.bool false) ∧ Fr No w w' := by
  have hc := fun W => cmpWrong_calls W c hs
  obtain ⟨c1, c2, c3, c4, c5⟩ := c
  unfold cmpV at *
  dsimp only at *
  generalize cmpE _ = k at *
  have hE' : (k == 0) = false := by simpa using hE
  clear hE hs
  have HC := Lib.hid hc
  clear hc
  go_enter Try.func16, Try.ntmps16
  go_wp2_with (go_at_call 46; refine (HC.out _).mono ?_; rintro e w1 ⟨rfl, hf⟩)
  go_ret
  exact ⟨rfl, ((Fr.refl No w).alloc _).trans0 hf⟩

theorem as33t (v : Value) (w : World) : (Instr.typeAssert (.iface 3 v) 20 3 true).run Try.prog w = .ok (.tuple #[v, .bool true]) w := by kernel_rfl
theorem as33f (v : Value) (w : World) : (Instr.typeAssert (.iface 3 v) 20 3 false).run Try.prog w = .ok v w := by kernel_rfl
theorem as93t (v : Value) (w : World) : (Instr.typeAssert (.iface 9 v) 20 3 true).run Try.prog w = .ok (.tuple #[.int .i64 0, .bool false]) w := by kernel_rfl
theorem as99f (v : Value) (w : World) : (Instr.typeAssert (.iface 9 v) 20 9 false).run Try.prog w = .ok v w := by kernel_rfl

set_option maxHeartbeats 4000000 in
theorem Holds_calls {TA : TreeRel} {N : Nat} (hT : TreeOk TA N) {n : Nat} (hn : n ≤ 1099511627) (w : World) (s : Nat) (S : St) (F : Nat → Prop) (hS : StoreAt TA w s S F) (hok : StOk n S) (hN : S.T.length ≤ 1099511627) (hr0 : 0 ≤ S.rev) (c : Cmp)
    (hs : c.key.size ≤ 1099511627776) (hE : cmpE c = 0) :
    Calls Try.prog 16 #[.pointer (some ⟨s, 0, none⟩), cmpV c] w fun e w' => e = .returned (.bool (holdsB S c)) ∧ Fr No w w' := by
  have hc := fun W => cmpWrong_calls W c hs
  have hk : keyE c.key = 0 := by
    unfold cmpE at hE
    by_cases h : keyE c.key ≠ 0
    · rw [if_pos h] at hE; exact absurd hE h
    · simpa using h
  have hre : rangeE S (rg0 c.key) = 0 := by
    unfold rangeE askE whenE rg0
    dsimp only
    rw [hk]
    have : ByteArray.empty.size = 0 := rfl
    simp [this]
    omega
  have hrg := fun W (h : Fr No w W) => Range_calls hT hn W s S F (hS.fr0 hT h) hok hN (rg0 c.key) hs rfl rfl hre
  have hmo : moreB S (rg0 c.key) S.rev = false := by unfold moreB rg0; simp
  have hgl : getL S (rg0 c.key) S.rev = allL S (rg0 c.key) S.rev := by unfold getL; rw [hmo]; rfl
  have hh : holdsB S c = (orderC c (seenS S c.key) == sgnI c.how 0) := by unfold holdsB; rw [hE]; rfl
  rw [hE] at hc
  rw [hgl] at hrg
  rw [hh]
  unfold seenS
  generalize allL S (rg0 c.key) S.rev = L at *
  generalize moreB S (rg0 c.key) S.rev = mo at *
  obtain ⟨c1, c2, c3, c4, c5⟩ := c
  unfold rg0 rgV at hrg
  unfold cmpV at *
  dsimp only at *
  have HC := Lib.hid hc
  have HR := Lib.hid hrg
  clear hc hrg hE hk hre hgl hh hmo hs hS
  go_enter Try.func16, Try.ntmps16
  go_upto_if 34 with (first
    | (go_at_call 46; refine (HC.out _).mono ?_; rintro e w1 ⟨rfl, hf⟩
       have hf1 : Fr No w w1 := ((Fr.refl No w).alloc _).trans0 hf
       have hb : w1.heap[w.heap.size]? = some (.cells #[.string c1, .int .i64 c2, .int .i64 c3, .int .i64 c4, .string c5] 32 (0, 0)) := hf.heap (alloc_at _ _ _ rfl) id
       have x0 : w1.cell? ⟨w.heap.size, 0, none⟩ = some (.string c1) := by simp [World.cell?, hb]
       have lx := heap_lt hb)
    | (go_at_call 30; refine (HR.out _ (hf1.alloc _)).mono ?_; rintro e w2 ⟨v, rfl, hv, hf2, hvn⟩; obtain ⟨va, vcap, rfl, hc1, hc2, hva⟩ := hv.shape
       have hb2 := hf2.heap (alloc_at w1 (Obj.cells #[.string ByteArray.empty, .string ByteArray.empty, .int .i64 0, .int .i64 0, .int .i64 0, .int .i64 0] 57) _ rfl) id
       have hbx2 := hf2.heap (((Fr.refl No w1).alloc (Obj.cells #[.string ByteArray.empty, .string ByteArray.empty, .int .i64 0, .int .i64 0, .int .i64 0, .int .i64 0] 57)).heap hb id) id
       have hfw2 : Fr No w w2 := (hf1.alloc _).trans0 hf2
       have l2 := heap_lt hb2))
  have HB2 := Lib.hid hb2
  have HBX2 := Lib.hid hbx2
  have HV := Lib.hid hv
  have HVN := Lib.hid hvn
  have HVA := Lib.hid hva
  have hsz1 := hf1.size
  clear hb2 hbx2 hv hvn hva hf hb x0
  go_cut [35, 36, 37] (fun s35 s36 s37 wx => Hid (wx.heap[w.heap.size]? = some (.cells #[.string c1, .int .i64 c2, .int .i64 c3, .int .i64 c4, .string c5] 32 (0, 0))) ∧
    Hid (wx.heap[w1.heap.size]? = some (.cells #[.string (onlyL L).key, .string (onlyL L).value, .int .i64 (onlyL L).create, .int .i64 (onlyL L).mod, .int .i64 (onlyL L).version, .int .i64 (onlyL L).lease] 57 (0, 0))) ∧ Hid (Fr No w wx))
  case first =>
    by_cases h1 : L.length = 1
    · obtain ⟨x, rfl⟩ := List.length_eq_one_iff.1 h1
      obtain ⟨gb, go, rfl⟩ := HVA.out (by simp)
      obtain ⟨x1, x2, x3, x4, x5, x6⟩ := x
      have y0 : w2.cell? ⟨gb, go, none⟩ = some (.string x1) := by simpa using HV.out.cell kvC_length 0 0 rfl rfl
      have y1 : w2.cell? ⟨gb, go + 1, none⟩ = some (.string x2) := by simpa using HV.out.cell kvC_length 0 1 rfl rfl
      have y2 : w2.cell? ⟨gb, go + 2, none⟩ = some (.int .i64 x3) := by simpa using HV.out.cell kvC_length 0 2 rfl rfl
      have y3 : w2.cell? ⟨gb, go + 3, none⟩ = some (.int .i64 x4) := by simpa using HV.out.cell kvC_length 0 3 rfl rfl
      have y4 : w2.cell? ⟨gb, go + 4, none⟩ = some (.int .i64 x5) := by simpa using HV.out.cell kvC_length 0 4 rfl rfl
      have y5 : w2.cell? ⟨gb, go + 5, none⟩ = some (.int .i64 x6) := by simpa using HV.out.cell kvC_length 0 5 rfl rfl
      have z0 : w2.cell? ⟨w1.heap.size, 0, none⟩ = some (.string ByteArray.empty) := by simp [World.cell?, HB2.out]
      have z1 : w2.cell? ⟨w1.heap.size, 1, none⟩ = some (.string ByteArray.empty) := by simp [World.cell?, HB2.out]
      have z2 : w2.cell? ⟨w1.heap.size, 2, none⟩ = some (.int .i64 0) := by simp [World.cell?, HB2.out]
      have z3 : w2.cell? ⟨w1.heap.size, 3, none⟩ = some (.int .i64 0) := by simp [World.cell?, HB2.out]
      have z4 : w2.cell? ⟨w1.heap.size, 4, none⟩ = some (.int .i64 0) := by simp [World.cell?, HB2.out]
      have z5 : w2.cell? ⟨w1.heap.size, 5, none⟩ = some (.int .i64 0) := by simp [World.cell?, HB2.out]
      have hfz : ∀ i, w2.frozen? ⟨w1.heap.size, i, none⟩ = false := fun i => by simp [World.frozen?, HB2.out]
      go_wp2
      go_meet
      case rel =>
        obtain ⟨Z, hZ, hz6, hzf⟩ := kv_stored (w := w) HB2.out ⟨x1, x2, x3, x4, x5, x6⟩
        dsimp only at hZ hz6
        rw [hZ]
        have hFb : Fr (fun b => b = w1.heap.size) w2 Z := by rw [← hZ]; exact ((((((Fr.refl _ w2).setAt 0 _).setAt 1 _).setAt 2 _).setAt 3 _).setAt 4 _).setAt 5 _
        exact ⟨Lib.hid (hFb.heap HBX2.out (fun e => by have e' : w.heap.size = w1.heap.size := e; omega)), Lib.hid hz6, Lib.hid (hzf hfw2 (by omega))⟩
    · have h1' : ((L.length : Int) == 1) = false := by simpa using (show ¬ (L.length : Int) = 1 by omega)
      have hk : onlyL L = kv0 := by
        match L, h1 with
        | [], _ => rfl
        | [_], h => simp at h
        | _ :: _ :: _, _ => rfl
      have HK := Lib.hid hk
      clear hk
      go_wp2
      go_meet
      case rel => exact ⟨HBX2, Lib.hid (by rw [HK.out]; exact HB2.out), Lib.hid hfw2⟩
  case rest =>
    obtain ⟨HA, HB, HF⟩ := hcut
    generalize hkk : onlyL L = k at *
    have HKK := Lib.hid hkk
    clear hkk
    obtain ⟨k1, k2, k3, k4, k5, k6⟩ := k
    have a0 : wc.cell? ⟨w.heap.size, 0, none⟩ = some (.string c1) := by simp [World.cell?, HA.out]
    have a1 : wc.cell? ⟨w.heap.size, 1, none⟩ = some (.int .i64 c2) := by simp [World.cell?, HA.out]
    have a2 : wc.cell? ⟨w.heap.size, 2, none⟩ = some (.int .i64 c3) := by simp [World.cell?, HA.out]
    have a3 : wc.cell? ⟨w.heap.size, 3, none⟩ = some (.int .i64 c4) := by simp [World.cell?, HA.out]
    have a4 : wc.cell? ⟨w.heap.size, 4, none⟩ = some (.string c5) := by simp [World.cell?, HA.out]
    have b0 : wc.cell? ⟨w1.heap.size, 0, none⟩ = some (.string k1) := by simp [World.cell?, HB.out]
    have b1 : wc.cell? ⟨w1.heap.size, 1, none⟩ = some (.string k2) := by simp [World.cell?, HB.out]
    have b2 : wc.cell? ⟨w1.heap.size, 2, none⟩ = some (.int .i64 k3) := by simp [World.cell?, HB.out]
    have b3 : wc.cell? ⟨w1.heap.size, 3, none⟩ = some (.int .i64 k4) := by simp [World.cell?, HB.out]
    have b4 : wc.cell? ⟨w1.heap.size, 4, none⟩ = some (.int .i64 k5) := by simp [World.cell?, HB.out]
    have b5 : wc.cell? ⟨w1.heap.size, 5, none⟩ = some (.int .i64 k6) := by simp [World.cell?, HB.out]
    have la := heap_lt HA.out
    have lb := heap_lt HB.out
    have hsd := fun W => sides_calls W ⟨c1, c2, c3, c4, c5⟩ ⟨k1, k2, k3, k4, k5, k6⟩
    have hor : orderC ⟨c1, c2, c3, c4, c5⟩ ⟨k1, k2, k3, k4, k5, k6⟩ = if c2 = 1 ∨ c2 = 2 ∨ c2 = 3 ∨ c2 = 5 then sgnI (sideN ⟨c1, c2, c3, c4, c5⟩ ⟨k1, k2, k3, k4, k5, k6⟩) c4 else sgnS k2 c5 := rfl
    unfold sidesV cmpV kvV at hsd
    dsimp only at hsd
    generalize sideN ⟨c1, c2, c3, c4, c5⟩ ⟨k1, k2, k3, k4, k5, k6⟩ = sn at *
    have t1 := as33t
    have t2 := as33f
    have t3 := as93t
    have t4 := as99f
    by_cases hw : c2 = 1 ∨ c2 = 2 ∨ c2 = 3 ∨ c2 = 5
    · simp only [if_pos hw] at hsd
      rw [if_pos hw] at hor
      have HSD := Lib.hid hsd
      have HO := Lib.hid hor
      clear hsd hor hw
      go_wp2_with (first
        | (go_at_call 48; refine (HSD.out _).mono ?_; rintro e w3 ⟨rfl, hf3⟩
           have a2' := hf3.cell0 a2)
        | (go_at_call 49; refine (sgnI_calls _ _ _).mono ?_; rintro e w4 ⟨rfl, rfl⟩))
      go_ret
      exact ⟨by rw [HKK.out, HO.out]; rfl, HF.out.trans0 hf3⟩
    · simp only [if_neg hw] at hsd
      rw [if_neg hw] at hor
      have HSD := Lib.hid hsd
      have HO := Lib.hid hor
      clear hsd hor hw
      go_upto_region 12 with (first
        | (go_at_call 48; refine (HSD.out _).mono ?_; rintro e w3 ⟨rfl, hf3⟩
           have a2' := hf3.cell0 a2))
      have a3' := a2'
      go_region_held (fun W => W.cell? ⟨w.heap.size, 2, none⟩ = some (.int .i64 c3)) (first | assumption) (first | (go_at_call 50; refine (sgnS_calls _ _ _).mono ?_; rintro e w4 ⟨rfl, rfl⟩))
      go_wp2_with (first
        | (go_at_call 49; refine (sgnI_calls _ _ _).mono ?_; rintro e w4 ⟨rfl, rfl⟩))
      all_goals (go_ret; exact ⟨by rw [HKK.out, HO.out]; rfl, HF.out.trans0 (by (repeat (first | exact hf3 | refine Fr.drew ?_)))⟩)
end Go.Proofs.Ythljnnjpmdgkoaa
