/- slices.DeleteFunc over events, as the store's Compact uses it: what is left is what is not too old. The condition: lists are not too long. -/
import Derived.Test.YthljnnjpmdgkoaaDelEv
namespace Go.Proofs.Ythljnnjpmdgkoaa
open Go Go.Proofs Go.RowKit
set_option maxRecDepth 100000

def keptB (rev : Int) (x : Ev) : Bool := !oldB rev x
theorem filter_first {rev : Int} {L : List Ev} {k : Nat} (h : L.findIdx (oldB rev) = k) (hk : k < L.length) : (L.take (k + 1)).filter (keptB rev) = L.take k := by
  have hx : ∃ x, L[k]? = some x := ⟨_, List.getElem?_eq_getElem hk⟩
  obtain ⟨x, hx⟩ := hx
  have hp : oldB rev x = true := by
    have := (List.findIdx_eq hk).1 h
    rw [(List.getElem?_eq_some_iff.1 hx).2] at this
    exact this.1
  rw [List.take_add_one, hx, List.filter_append]
  have h1 : (L.take k).filter (keptB rev) = L.take k := by
    rw [List.filter_eq_self]
    intro y hy
    obtain ⟨j, hj⟩ := List.mem_iff_getElem?.1 hy
    have hjl := (List.getElem?_eq_some_iff.1 hj).1
    rw [List.length_take] at hjl
    rw [List.getElem?_take_of_lt (by omega)] at hj
    have := ((List.findIdx_eq hk).1 h).2 j (by omega)
    rw [(List.getElem?_eq_some_iff.1 hj).2] at this
    unfold keptB; rw [this]; rfl
  rw [h1]
  simp [keptB, hp]
theorem filter_all {rev : Int} {L : List Ev} (h : L.findIdx (oldB rev) = L.length) : L.filter (keptB rev) = L := by
  rw [List.filter_eq_self]
  intro y hy
  rw [List.findIdx_eq_length] at h
  unfold keptB; rw [h y hy]; rfl

theorem set_take (l : List Ev) (k : Nat) (x : Ev) (h : k < l.length) : (l.set k x).take (k + 1) = l.take k ++ [x] := by
  rw [List.take_add_one, List.getElem?_set_self h]
  congr 1
  refine List.ext_getElem? fun j => ?_
  by_cases hj : j < k
  · rw [List.getElem?_take_of_lt hj, List.getElem?_take_of_lt hj, List.getElem?_set_ne (by omega)]
  · rw [List.getElem?_eq_none (by simp; omega), List.getElem?_eq_none (by simp; omega)]
theorem set_drop (l : List Ev) (k i : Nat) (x : Ev) (h : k < i) : (l.set k x).drop i = l.drop i := by
  refine List.ext_getElem? fun j => ?_
  rw [List.getElem?_drop, List.getElem?_drop, List.getElem?_set_ne (by omega)]

def zv73 : Value := .agg #[.int .i64 0, .string ByteArray.empty, .string ByteArray.empty, .int .i64 0, .int .i64 0, .int .i64 0, .int .i64 0, .string ByteArray.empty, .string ByteArray.empty, .int .i64 0, .int .i64 0, .int .i64 0, .int .i64 0]
theorem zero73 (w : World) : (zeroValue 73).run Try.prog w = .ok zv73 w := by kernel_rfl

set_option maxHeartbeats 8000000 in
theorem delEv_calls (w : World) (v : Value) (L : List Ev) (rb : Nat) (rev : Int) (hb : w.cell? ⟨rb, 0, none⟩ = some (.int .i64 rev)) (hv : SlF w 73 13 evC v L) (hn : v.ownBlock ≠ some rb) (hl : L.length ≤ 1099511627) :
    Calls Try.prog 81 #[v, .func (.func 84) #[] #[.pointer (some ⟨rb, 0, none⟩)]] w fun e w' => ∃ v', e = .returned v' ∧ SlF w' 73 13 evC v' (L.filter (keptB rev)) ∧ Fr (fun b => v.ownBlock = some b) w w' ∧ (∀ b, v'.ownBlock = some b → v.ownBlock = some b) := by
  have hix := fun W (h : Fr No w W) => indexEv_calls W v L rb rev (h.cell0 hb) (hv.fr0 h) hl
  obtain ⟨a, cap, rfl, hc1, hc2, ha⟩ := hv.shape
  have HIX := Lib.hid hix
  clear hix
  by_cases h0 : L.findIdx (oldB rev) = L.length
  · have hidx : idxEv (oldB rev) L = -1 := by unfold idxEv; rw [if_pos h0]
    rw [hidx] at HIX
    have hfa := filter_all h0
    rw [hfa]
    have HV := Lib.hid hv
    clear hv hidx h0 hfa
    go_enter Try.func81, Try.ntmps81
    go_wp2_with (go_at_call 115; refine (HIX.out _ (Fr.refl No w)).mono ?_; rintro e w1 ⟨rfl, hf1⟩)
    go_ret
    exact ⟨_, rfl, HV.out.fr0 hf1, hf1.mono fun _ _ h => h.elim, fun b h => h⟩
  · have hk : L.findIdx (oldB rev) < L.length := Nat.lt_of_le_of_ne List.findIdx_le_length h0
    have hidx : idxEv (oldB rev) L = (L.findIdx (oldB rev) : Int) := by unfold idxEv; rw [if_neg h0]
    rw [hidx] at HIX
    have hff := filter_first rfl hk
    generalize hkk : L.findIdx (oldB rev) = k0 at *
    obtain ⟨gb, go, rfl⟩ := ha (by omega)
    have hnr : gb ≠ rb := fun e => hn (by rw [← e]; rfl)
    have HV := Lib.hid hv
    have HB := Lib.hid hb
    have HFF := Lib.hid hff
    clear hv hidx h0 hff hkk ha hb hn
    have hk0 : ((k0 : Int) == -1) = false := by rw [beq_eq_false_iff_ne]; omega
    go_enter Try.func81, Try.ntmps81
    go_wp2_with (go_at_call 115; refine (HIX.out _ (Fr.refl No w)).mono ?_; rintro e w1 ⟨rfl, hf1⟩)
    go_loopg [5, 6] L.length (fun g s5 s6 wr => ∃ (k i : Nat) (M : List Ev), s5 = .int .i64 k ∧ s6 = .int .i64 i ∧ k < i ∧ i ≤ L.length ∧ i + g = L.length + k0 + 1 ∧ k0 < i ∧ M.length = L.length ∧ Hid (M.take k = (L.take i).filter (keptB rev)) ∧ Hid (M.drop i = L.drop i) ∧
      Hid (SlF wr 73 13 evC (.slice (some ⟨gb, go, none⟩) L.length cap) M) ∧ Hid (Fr (fun b => b = gb) w wr))
    case atStart => exact ⟨k0, k0 + 1, L, rfl, by go_num, by omega, by omega, by omega, by omega, rfl, Lib.hid HFF.out.symm, Lib.hid rfl, Lib.hid (HV.out.fr0 hf1), Lib.hid (hf1.mono fun _ _ h => h.elim)⟩
    case round =>
      obtain ⟨k, i, M, rfl, rfl, hki, hiL, hig, hk0i, hM, HT, HD, HS, HF⟩ := hrel
      by_cases hil : i < L.length
      · cases gk with
        | zero => omega
        | succ g =>
          have hil' : (i : Int) < (L.length : Int) := by omega
          have hkl' : (k : Int) < (L.length : Int) := by omega
          obtain ⟨x, hx⟩ : ∃ x, L[i]? = some x := ⟨_, List.getElem?_eq_getElem hil⟩
          have hMx : M[i]? = some x := by
            have := congrArg (fun l => l[0]?) HD.out
            simp only [List.getElem?_drop, Nat.add_zero] at this
            rw [this]; exact hx
          have hsl : SlF wr 73 13 evC (.slice (some ⟨gb, go, none⟩) M.length cap) M := by rw [hM]; exact HS.out
          obtain ⟨y, hy⟩ : ∃ y, M[k]? = some y := ⟨_, List.getElem?_eq_getElem (by omega)⟩
          have lgb : gb < wr.heap.size := hsl.lt gb rfl
          have hrb := HF.out.cell HB.out (fun e => hnr e.symm)
          have hoc := fun W (h : Fr No wr W) => old_calls W x rb rev (h.cell0 hrb)
          have hfz : ∀ j, wr.frozen? ⟨gb, j, none⟩ = false := fun j => hsl.free j
          have hob : decide (x.kv.mod < rev) = oldB rev x := rfl
          rw [hob] at hoc
          have hlk : ∀ (W : World), Fr No wr W → SlF (layEv W gb (go + k * 13) x) 73 13 evC (.slice (some ⟨gb, go, none⟩) L.length cap) (M.set k x) := fun (W : World) (h : Fr No wr W) => by
            have := layEv_sl (hsl.fr0 h) k hy x
            rw [hM] at this
            exact this
          have hlf := fun (W : World) (h : Fr (fun b => b = gb) w W) => layEv_fr h gb (go + k * 13) x rfl
          have htk : (L.take (i + 1)).filter (keptB rev) = (L.take i).filter (keptB rev) ++ (if oldB rev x then [] else [x]) := by
            rw [List.take_add_one, hx, List.filter_append]
            congr 1
            cases hq : oldB rev x <;> simp [keptB, hq]
          have hdk : M.drop (i + 1) = L.drop (i + 1) := by
            have := congrArg (List.drop 1) HD.out
            rwa [List.drop_drop, List.drop_drop] at this
          generalize hq : oldB rev x = q at *
          have z0 := hsl.cell0 evC_length i hMx rfl
          have u0 := hsl.cell0 evC_length k hy rfl
          have z1 := hsl.cell evC_length i 1 hMx rfl
          have u1 := hsl.cell evC_length k 1 hy rfl
          have z2 := hsl.cell evC_length i 2 hMx rfl
          have u2 := hsl.cell evC_length k 2 hy rfl
          have z3 := hsl.cell evC_length i 3 hMx rfl
          have u3 := hsl.cell evC_length k 3 hy rfl
          have z4 := hsl.cell evC_length i 4 hMx rfl
          have u4 := hsl.cell evC_length k 4 hy rfl
          have z5 := hsl.cell evC_length i 5 hMx rfl
          have u5 := hsl.cell evC_length k 5 hy rfl
          have z6 := hsl.cell evC_length i 6 hMx rfl
          have u6 := hsl.cell evC_length k 6 hy rfl
          have z7 := hsl.cell evC_length i 7 hMx rfl
          have u7 := hsl.cell evC_length k 7 hy rfl
          have z8 := hsl.cell evC_length i 8 hMx rfl
          have u8 := hsl.cell evC_length k 8 hy rfl
          have z9 := hsl.cell evC_length i 9 hMx rfl
          have u9 := hsl.cell evC_length k 9 hy rfl
          have z10 := hsl.cell evC_length i 10 hMx rfl
          have u10 := hsl.cell evC_length k 10 hy rfl
          have z11 := hsl.cell evC_length i 11 hMx rfl
          have u11 := hsl.cell evC_length k 11 hy rfl
          have z12 := hsl.cell evC_length i 12 hMx rfl
          have u12 := hsl.cell evC_length k 12 hy rfl
          have HLK := Lib.hid hlk
          have HLF := Lib.hid hlf
          have HOC := Lib.hid hoc
          have HTK := Lib.hid htk
          have HDK := Lib.hid hdk
          have HSL := Lib.hid hsl
          clear hlk hlf hoc htk hdk hsl hx hMx hq hob
          obtain ⟨x0, ⟨x1, x2, x3, x4, x5, x6⟩, ⟨x7, x8, x9, x10, x11, x12⟩⟩ := x
          unfold layEv at HLK HLF
          unfold evV at HOC
          dsimp only at *
          cases q
          · go_wp2_with (go_at_call 84; refine (HOC.out _ ((Fr.refl No wr).alloc _)).mono ?_; rintro e w2 ⟨rfl, hf2⟩
                         have hkc := hf2.heap (alloc_at wr (Obj.cells #[.int .i64 x0, .string x1, .string x2, .int .i64 x3, .int .i64 x4, .int .i64 x5, .int .i64 x6, .string x7, .string x8, .int .i64 x9, .int .i64 x10, .int .i64 x11, .int .i64 x12] 73) _ rfl) id
                         have hf3 : Fr No wr w2 := ((Fr.refl No wr).alloc _).trans0 hf2
                         have c0 : w2.cell? ⟨wr.heap.size, 0, none⟩ = some (.int .i64 x0) := by simp [World.cell?, hkc]
                         have u0 := hf3.cell0 u0
                         have c1 : w2.cell? ⟨wr.heap.size, 1, none⟩ = some (.string x1) := by simp [World.cell?, hkc]
                         have u1 := hf3.cell0 u1
                         have c2 : w2.cell? ⟨wr.heap.size, 2, none⟩ = some (.string x2) := by simp [World.cell?, hkc]
                         have u2 := hf3.cell0 u2
                         have c3 : w2.cell? ⟨wr.heap.size, 3, none⟩ = some (.int .i64 x3) := by simp [World.cell?, hkc]
                         have u3 := hf3.cell0 u3
                         have c4 : w2.cell? ⟨wr.heap.size, 4, none⟩ = some (.int .i64 x4) := by simp [World.cell?, hkc]
                         have u4 := hf3.cell0 u4
                         have c5 : w2.cell? ⟨wr.heap.size, 5, none⟩ = some (.int .i64 x5) := by simp [World.cell?, hkc]
                         have u5 := hf3.cell0 u5
                         have c6 : w2.cell? ⟨wr.heap.size, 6, none⟩ = some (.int .i64 x6) := by simp [World.cell?, hkc]
                         have u6 := hf3.cell0 u6
                         have c7 : w2.cell? ⟨wr.heap.size, 7, none⟩ = some (.string x7) := by simp [World.cell?, hkc]
                         have u7 := hf3.cell0 u7
                         have c8 : w2.cell? ⟨wr.heap.size, 8, none⟩ = some (.string x8) := by simp [World.cell?, hkc]
                         have u8 := hf3.cell0 u8
                         have c9 : w2.cell? ⟨wr.heap.size, 9, none⟩ = some (.int .i64 x9) := by simp [World.cell?, hkc]
                         have u9 := hf3.cell0 u9
                         have c10 : w2.cell? ⟨wr.heap.size, 10, none⟩ = some (.int .i64 x10) := by simp [World.cell?, hkc]
                         have u10 := hf3.cell0 u10
                         have c11 : w2.cell? ⟨wr.heap.size, 11, none⟩ = some (.int .i64 x11) := by simp [World.cell?, hkc]
                         have u11 := hf3.cell0 u11
                         have c12 : w2.cell? ⟨wr.heap.size, 12, none⟩ = some (.int .i64 x12) := by simp [World.cell?, hkc]
                         have u12 := hf3.cell0 u12
                         have hfz2 : ∀ j, w2.frozen? ⟨gb, j, none⟩ = false := fun j => (HSL.out.fr0 hf3).free j
                         have lgb2 : gb < w2.heap.size := Nat.lt_of_lt_of_le lgb hf3.size
                         have lkc := heap_lt hkc
                         clear hkc hf2)
            go_roundg g
            case rel => exact ⟨k + 1, i + 1, _, by go_num, by go_num, by omega, by omega, by omega, by omega, by rw [List.length_set]; exact hM, Lib.hid (by rw [set_take _ _ _ (by omega), HTK.out, HT.out]; simp), Lib.hid (by rw [set_drop _ _ _ _ (by omega)]; exact HDK.out), Lib.hid (HLK.out w2 hf3), Lib.hid (HLF.out w2 (HF.out.trans0 hf3))⟩
            case measure => omega
          · go_wp2_with (go_at_call 84; refine (HOC.out _ ((Fr.refl No wr).alloc _)).mono ?_; rintro e w2 ⟨rfl, hf2⟩)
            go_roundg g
            case rel => exact ⟨k, i + 1, M, rfl, by go_num, by omega, by omega, by omega, by omega, hM, Lib.hid (by rw [HTK.out, HT.out]; simp), HDK, Lib.hid (HS.out.fr0 (((Fr.refl No wr).alloc _).trans0 hf2)), Lib.hid (HF.out.trans0 (((Fr.refl No wr).alloc _).trans0 hf2))⟩
            case measure => omega
      · have hil' : ¬ (i : Int) < (L.length : Int) := by omega
        have hie : i = L.length := by omega
        have HTL : Hid (M.take k = L.filter (keptB rev)) := Lib.hid (by rw [HT.out, hie, List.take_length])
        clear HT HD HIX HV HB HFF
        have hkl : (k : Int) ≤ (L.length : Int) := by omega
        have hkc : (k : Int) ≤ (cap : Int) := by omega
        have hkc2 : k ≤ cap := by omega
        have hkc3 : ¬ cap = k := by omega
        have hsl : SlF wr 73 13 evC (.slice (some ⟨gb, go, none⟩) M.length cap) M := by rw [hM]; exact HS.out
        obtain ⟨cur, hcur, hfit⟩ : ∃ cur : Array Value, wr.heap[gb]? = some (.cells cur 73 (0, 0)) ∧ go + L.length * 13 ≤ cur.size := by
          rcases hsl.2 with ⟨h0, _⟩ | ⟨g', o', cap', cur, hv, hg, h2, h3, h4, h5⟩
          · cases h0
          · simp only [Value.slice.injEq, Option.some.injEq, Addr.mk.injEq, and_true] at hv
            obtain ⟨⟨rfl, rfl⟩, _, rfl⟩ := hv
            have : L.length * 13 ≤ cap * 13 := Nat.mul_le_mul_right _ (by omega)
            exact ⟨cur, hg, by omega⟩
        have hkm : go + k * 13 + (L.length - k) * 13 ≤ cur.size := by omega
        obtain ⟨w3, hrun, hg3, hgr⟩ := run_clear_sl (P := Try.prog) wr 34 73 0 _ Try.underlying34 zero73 (by decide) gb (go + k * 13) (L.length - k) (cap - k) cur 73 hcur (by exact hkm)
        have hfr3 : Fr (fun b => b = gb) wr w3 := (Fr.refl _ wr).grown hgr fun j hj => .inl (by simpa using hj.symm)
        have hcl := SlF.cleared evC_length hsl k (by omega) cur hcur (Builtin.zeroCells zv73.cells (L.length - k)).toList (by rw [zeroCells_length, hM]; rfl) (by rw [hM]; exact hg3)
        have HCL := Lib.hid hcl
        clear hsl hcl hg3 hgr hcur hfit hkm
        go_wp2
        go_ret
        exact ⟨_, rfl, by rw [← HTL.out]; exact HCL.out, (HF.out.trans hfr3 fun _ _ h => h).mono fun b _ h => by rw [h]; rfl, fun b h => h⟩
end Go.Proofs.Ythljnnjpmdgkoaa
