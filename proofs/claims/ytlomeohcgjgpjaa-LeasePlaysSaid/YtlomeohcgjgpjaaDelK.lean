/- slices.IndexFunc and DeleteFunc over keys, as the table's Detach uses them: all keys but one are left. The condition: lists are not too long. -/
import Derived.Test.YtlomeohcgjgpjaaStrs
namespace Go.Proofs.Ytlomeohcgjgpjaa
open Go Go.Proofs Go.RowKit
set_option maxRecDepth 100000

def isK (key x : ByteArray) : Bool := keq x key
def idxK (P : ByteArray → Bool) (l : List ByteArray) : Int := if l.findIdx P = l.length then -1 else (l.findIdx P : Int)
theorem firstK {key : ByteArray} {L : List ByteArray} {k : Nat} (h : L.findIdx (isK key) = k) (hk : k < L.length) : delK key (L.take (k + 1)) = L.take k := by
  subst h
  have h1 : delK key (L.take (L.findIdx (isK key))) = L.take (L.findIdx (isK key)) := by
    unfold delK
    rw [List.filter_eq_self]
    intro x hx
    obtain ⟨i, hi, rfl⟩ := List.getElem_of_mem hx
    rw [List.length_take] at hi
    have := List.not_of_lt_findIdx (p := isK key) (xs := L) (i := i) (by omega)
    rw [List.getElem_take]
    simpa [isK] using this
  rw [List.take_add_one, List.getElem?_eq_getElem hk]
  have h2 := List.findIdx_getElem (p := isK key) (xs := L) (w := hk)
  show List.filter _ _ = _
  rw [List.filter_append]
  rw [show List.filter (fun k => !keq k key) (L.take (L.findIdx (isK key))) = _ from h1]
  simp only [Option.toList_some]
  rw [List.filter_cons_of_neg (by simpa [isK] using h2)]
  simp
theorem allK {key : ByteArray} {L : List ByteArray} (h : L.findIdx (isK key) = L.length) : delK key L = L := by
  unfold delK
  rw [List.filter_eq_self]
  rw [List.findIdx_eq_length] at h
  intro x hx
  have := h x hx
  simpa [isK] using this
theorem setK_take (l : List ByteArray) (k : Nat) (x : ByteArray) (h : k < l.length) : (l.set k x).take (k + 1) = l.take k ++ [x] := by
  rw [List.take_add_one, List.take_set_of_le (Nat.le_refl _), List.getElem?_set_self h]; rfl
theorem setK_drop (l : List ByteArray) (k i : Nat) (x : ByteArray) (h : k < i) : (l.set k x).drop i = l.drop i := by
  rw [List.drop_set_of_lt h]
set_option maxHeartbeats 1000000 in
theorem isK_calls (w : World) (x key : ByteArray) (kb : Nat) (hb : w.cell? ⟨kb, 0, none⟩ = some (.string key)) :
    Calls Try.prog 53 #[.string x, .pointer (some ⟨kb, 0, none⟩)] w fun e w' => e = .returned (.bool (isK key x)) ∧ w = w' := by
  have lb : kb < w.heap.size := World.block_lt_of_cell? w _ hb
  have he : (x.toList == key.toList) = isK key x := rfl
  generalize isK key x = b at *
  have HE := Lib.hid he
  clear he
  go_enter Try.func53, Try.ntmps53
  go_wp2
  go_ret
  exact ⟨by rw [← HE.out]; rfl, rfl⟩

set_option maxHeartbeats 2000000 in
theorem idxK_calls (w : World) (v : Value) (l : List ByteArray) (rb : Nat) (key : ByteArray) (hb : w.cell? ⟨rb, 0, none⟩ = some (.string key)) (hv : SlF w 9 1 strC v l) (hl : l.length ≤ 1099511627) :
    Calls Try.prog 71 #[v, .func (.func 53) #[] #[.pointer (some ⟨rb, 0, none⟩)]] w fun e w' => e = .returned (.int .i64 (idxK (isK key) l)) ∧ w = w' := by
  obtain ⟨a, cap, rfl, hc1, hc2, ha⟩ := hv.shape
  have HV := Lib.hid hv; clear hv
  have HA := Lib.hid ha; clear ha
  have HB := Lib.hid hb; clear hb
  go_enter Try.func71, Try.ntmps71
  go_wp2
  go_loopg [8] l.length (fun g s8 wr => ∃ i : Nat, s8 = .int .i64 i ∧ i + g = l.length ∧ Hid (∀ j, j < i → ∀ p, l[j]? = some p → isK key p = false) ∧ Hid (w = wr))
  case atStart => exact ⟨0, rfl, by simp, Lib.hid (by simp), Lib.hid rfl⟩
  case round =>
    obtain ⟨i, rfl, hi, HJ, HF⟩ := hrel
    obtain rfl := HF.out
    cases gk with
    | zero =>
      have hil : ¬ (i : Int) < (l.length : Int) := by omega
      go_wp2
      go_ret
      refine ⟨?_, rfl⟩
      have hu : l.findIdx (isK key) = l.length := by
        rw [List.findIdx_eq_length]
        intro x hx
        obtain ⟨j, hj, rfl⟩ := List.getElem_of_mem hx
        exact HJ.out j (by omega) _ (List.getElem?_eq_getElem hj)
      unfold idxK
      rw [if_pos hu]
      rfl
    | succ g =>
      obtain ⟨gb, go, rfl⟩ := HA.out (by omega)
      obtain ⟨p, hx⟩ : ∃ p, l[i]? = some p := ⟨_, List.getElem?_eq_getElem (by omega)⟩
      have x0 := HV.out.cell1 strC_length i hx rfl
      have hil : (i : Int) < (l.length : Int) := by omega
      have hcl := isK_calls w p key rb HB.out
      have Hx := Lib.hid hx
      clear hx
      generalize hp : isK key p = q at *
      have Hp := Lib.hid hp
      clear hp
      cases q
      · go_wp2_with (go_at_call 53; refine hcl.mono ?_; rintro e w1 ⟨rfl, rfl⟩)
        go_roundg g
        case rel => exact ⟨i + 1, by go_num, by omega, Lib.hid (fun j hj q hq => by
          by_cases hji : j = i
          · subst hji; rw [Hx.out] at hq; cases hq; exact Hp.out
          · exact HJ.out j (by omega) q hq), Lib.hid rfl⟩
        case measure => omega
      · go_wp2_with (go_at_call 53; refine hcl.mono ?_; rintro e w1 ⟨rfl, rfl⟩)
        go_ret
        refine ⟨?_, rfl⟩
        have hu : l.findIdx (isK key) = i := by
          have hil' : i < l.length := by omega
          rw [List.findIdx_eq hil']
          have hgi : l[i] = p := (List.getElem?_eq_some_iff.1 Hx.out).2
          refine ⟨by rw [hgi]; exact Hp.out, fun j hj => ?_⟩
          exact HJ.out j hj _ (List.getElem?_eq_getElem (by omega))
        unfold idxK
        rw [hu, if_neg (by omega)]
        rfl

set_option maxHeartbeats 8000000 in
theorem delK_calls (w : World) (v : Value) (L : List ByteArray) (rb : Nat) (key : ByteArray) (hb : w.cell? ⟨rb, 0, none⟩ = some (.string key)) (hv : SlF w 9 1 strC v L) (hn : v.ownBlock ≠ some rb) (hl : L.length ≤ 1099511627) :
    Calls Try.prog 52 #[v, .func (.func 53) #[] #[.pointer (some ⟨rb, 0, none⟩)]] w fun e w' => ∃ v', e = .returned v' ∧ SlF w' 9 1 strC v' (delK key L) ∧ Fr (fun b => v.ownBlock = some b) w w' ∧ v'.ownBlock = v.ownBlock := by
  have hix := idxK_calls w v L rb key hb hv hl
  obtain ⟨a, cap, rfl, hc1, hc2, ha⟩ := hv.shape
  have HIX := Lib.hid hix
  clear hix
  by_cases h0 : L.findIdx (isK key) = L.length
  · have hidx : idxK (isK key) L = -1 := by unfold idxK; rw [if_pos h0]
    rw [hidx] at HIX
    have hfa := allK h0
    rw [hfa]
    have HV := Lib.hid hv
    clear hv hidx h0 hfa
    go_enter Try.func52, Try.ntmps52
    go_wp2_with (go_at_call 71; refine HIX.out.mono ?_; rintro e w1 ⟨rfl, rfl⟩)
    go_ret
    exact ⟨_, rfl, HV.out, Fr.refl _ _, rfl⟩
  · have hk : L.findIdx (isK key) < L.length := Nat.lt_of_le_of_ne List.findIdx_le_length h0
    have hidx : idxK (isK key) L = (L.findIdx (isK key) : Int) := by unfold idxK; rw [if_neg h0]
    rw [hidx] at HIX
    have hff := firstK rfl hk
    generalize hkk : L.findIdx (isK key) = k0 at *
    obtain ⟨gb, go, rfl⟩ := ha (by omega)
    have hnr : gb ≠ rb := fun e => hn (by rw [← e]; rfl)
    have HV := Lib.hid hv
    have HB := Lib.hid hb
    have HFF := Lib.hid hff
    clear hv hidx h0 hff hkk ha hb hn
    have hk0 : ((k0 : Int) == -1) = false := by rw [beq_eq_false_iff_ne]; omega
    go_enter Try.func52, Try.ntmps52
    go_wp2_with (go_at_call 71; refine HIX.out.mono ?_; rintro e w1 ⟨rfl, rfl⟩)
    go_loopg [5, 6] L.length (fun g s5 s6 wr => ∃ (k i : Nat) (M : List ByteArray), s5 = .int .i64 k ∧ s6 = .int .i64 i ∧ k < i ∧ i ≤ L.length ∧ i + g = L.length + k0 + 1 ∧ k0 < i ∧ M.length = L.length ∧ Hid (M.take k = delK key (L.take i)) ∧ Hid (M.drop i = L.drop i) ∧
      Hid (SlF wr 9 1 strC (.slice (some ⟨gb, go, none⟩) L.length cap) M) ∧ Hid (Fr (fun b => b = gb) w wr))
    case atStart => exact ⟨k0, k0 + 1, L, rfl, by go_num, by omega, by omega, by omega, by omega, rfl, Lib.hid HFF.out.symm, Lib.hid rfl, HV, Lib.hid (Fr.refl _ _)⟩
    case round =>
      obtain ⟨k, i, M, rfl, rfl, hki, hiL, hig, hk0i, hM, HT, HD, HS, HF⟩ := hrel
      by_cases hil : i < L.length
      · cases gk with
        | zero => omega
        | succ g =>
          have hil' : (i : Int) < (L.length : Int) := by omega
          have hkl' : (k : Int) < (L.length : Int) := by omega
          obtain ⟨x, hx⟩ : ∃ x, L[i]? = some x := ⟨_, List.getElem?_eq_getElem hil⟩
          have hMx : M[i]? = some x := by
            have := congrArg (fun l => l[0]?) HD.out
            simp only [List.getElem?_drop, Nat.add_zero] at this
            rw [this]; exact hx
          have hsl : SlF wr 9 1 strC (.slice (some ⟨gb, go, none⟩) M.length cap) M := by rw [hM]; exact HS.out
          obtain ⟨y, hy⟩ : ∃ y, M[k]? = some y := ⟨_, List.getElem?_eq_getElem (by omega)⟩
          have lgb : gb < wr.heap.size := hsl.lt gb rfl
          have hrb := HF.out.cell HB.out (fun e => hnr e.symm)
          have hoc := isK_calls wr x key rb hrb
          have hfz : ∀ j, wr.frozen? ⟨gb, j, none⟩ = false := fun j => hsl.free j
          have hlk : SlF (wr.setCell ⟨gb, go + k, none⟩ (.string x)) 9 1 strC (.slice (some ⟨gb, go, none⟩) L.length cap) (M.set k x) := by
            have := hsl.set strC_length k 0 (by omega) y x (.string x) hy rfl
            rw [hM] at this
            rw [Nat.mul_one] at this
            exact this
          have hlf : Fr (fun b => b = gb) w (wr.setCell ⟨gb, go + k, none⟩ (.string x)) := HF.out.setAt _ _
          have htk : delK key (L.take (i + 1)) = delK key (L.take i) ++ (if isK key x then [] else [x]) := by
            unfold delK
            rw [List.take_add_one, hx, List.filter_append]
            congr 1
            cases hq : isK key x <;> (unfold isK at hq; simp [hq])
          have hdk : M.drop (i + 1) = L.drop (i + 1) := by
            have := congrArg (List.drop 1) HD.out
            rwa [List.drop_drop, List.drop_drop] at this
          generalize hq : isK key x = q at *
          have z0 := hsl.cell1 strC_length i hMx rfl
          have u0 := hsl.cell1 strC_length k hy rfl
          have HLK := Lib.hid hlk
          have HLF := Lib.hid hlf
          have HOC := Lib.hid hoc
          have HTK := Lib.hid htk
          have HDK := Lib.hid hdk
          clear hlk hlf hoc htk hdk hsl hx hMx hq
          cases q
          · go_wp2_with (go_at_call 53; refine HOC.out.mono ?_; rintro e w2 ⟨rfl, rfl⟩)
            go_roundg g
            case rel => exact ⟨k + 1, i + 1, _, by go_num, by go_num, by omega, by omega, by omega, by omega, by rw [List.length_set]; exact hM, Lib.hid (by rw [setK_take _ _ _ (by omega), HTK.out, HT.out]; simp), Lib.hid (by rw [setK_drop _ _ _ _ (by omega)]; exact HDK.out), HLK, HLF⟩
            case measure => omega
          · go_wp2_with (go_at_call 53; refine HOC.out.mono ?_; rintro e w2 ⟨rfl, rfl⟩)
            go_roundg g
            case rel => exact ⟨k, i + 1, M, rfl, by go_num, by omega, by omega, by omega, by omega, hM, Lib.hid (by rw [HTK.out, HT.out]; simp), HDK, HS, HF⟩
            case measure => omega
      · have hil' : ¬ (i : Int) < (L.length : Int) := by omega
        have hie : i = L.length := by omega
        have HTL : Hid (M.take k = delK key L) := Lib.hid (by rw [HT.out, hie, List.take_length])
        clear HT HD HIX HV HB HFF
        have hkl : (k : Int) ≤ (L.length : Int) := by omega
        have hkc : (k : Int) ≤ (cap : Int) := by omega
        have hkc2 : k ≤ cap := by omega
        have hkc3 : ¬ cap = k := by omega
        have hsl : SlF wr 9 1 strC (.slice (some ⟨gb, go, none⟩) M.length cap) M := by rw [hM]; exact HS.out
        obtain ⟨cur, hcur, hfit⟩ : ∃ cur : Array Value, wr.heap[gb]? = some (.cells cur 9 (0, 0)) ∧ go + L.length * 1 ≤ cur.size := by
          rcases hsl.2 with ⟨h0, _⟩ | ⟨g', o', cap', cur, hv, hg, h2, h3, h4, h5⟩
          · cases h0
          · simp only [Value.slice.injEq, Option.some.injEq, Addr.mk.injEq, and_true] at hv
            obtain ⟨⟨rfl, rfl⟩, _, rfl⟩ := hv
            have : L.length * 1 ≤ cap * 1 := Nat.mul_le_mul_right _ (by omega)
            exact ⟨cur, hg, by omega⟩
        have hkm : go + k * 1 + (L.length - k) * 1 ≤ cur.size := by omega
        obtain ⟨w3, hrun, hg3, hgr⟩ := run_clear_sl (P := Try.prog) wr 30 9 0 _ Try.underlying30 zero9 (by decide) gb (go + k * 1) (L.length - k) (cap - k) cur 9 hcur (by exact hkm)
        have hfr3 : Fr (fun b => b = gb) wr w3 := (Fr.refl _ wr).grown hgr fun j hj => .inl (by simpa using hj.symm)
        have hcl := SlF.cleared strC_length hsl k (by omega) cur hcur (Builtin.zeroCells (Value.string ByteArray.empty).cells (L.length - k)).toList (by rw [zeroCells_length, hM]; rfl) (by rw [hM]; exact hg3)
        have HCL := Lib.hid hcl
        rw [Nat.mul_one] at hrun
        clear hsl hcl hg3 hgr hcur hfit hkm
        go_wp2
        go_ret
        exact ⟨_, rfl, by rw [← HTL.out]; exact HCL.out, (HF.out.trans hfr3 fun _ _ h => h).mono fun b _ h => by rw [h]; rfl, rfl⟩
end Go.Proofs.Ytlomeohcgjgpjaa
