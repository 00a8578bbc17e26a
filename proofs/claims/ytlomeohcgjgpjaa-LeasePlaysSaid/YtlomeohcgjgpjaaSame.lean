/- The law's same answers true over two lists that read alike. -/
import Derived.Test.YtlomeohcgjgpjaaTxts
import Derived.Test.YtlomeohcgjgpjaaLeaZ
namespace Go.Proofs.Ytlomeohcgjgpjaa
open Go Go.Proofs Go.RowKit
set_option maxRecDepth 100000

/-- A list of leases as it reads. -/
structure LstR (w : World) (v : Value) (P : List (LV × Value)) : Prop where
  sl : SlF w 36 4 lvC v P
  keys : ∀ p ∈ P, SlF w 9 1 strC p.2 p.1.keys
theorem LstR.fr0 {w w' : World} {v : Value} {P : List (LV × Value)} (h : LstR w v P) (hf : Fr No w w') : LstR w' v P := ⟨h.sl.fr0 hf, fun p hp => (h.keys p hp).fr0 hf⟩
theorem Lst.rd {B : Nat} {w : World} {v : Value} {P : List (LV × Value)} (h : Lst B w v P) : LstR w v P := ⟨h.sl, fun p hp => (h.keys p hp).1⟩
set_option maxHeartbeats 4000000 in
theorem same_calls (w : World) (u v : Value) (P Q : List (LV × Value)) (hP : LstR w u P) (hQ : LstR w v Q) (hPQ : P.map (·.1) = Q.map (·.1)) :
    Calls Try.prog 13 #[u, v] w fun e w' => e = .returned (.bool true) ∧ Fr No w w' := by
  obtain ⟨a, ca, rfl, ha1, ha2, ha3⟩ := hP.sl.shape
  obtain ⟨b, cb, rfl, hb1, hb2, hb3⟩ := hQ.sl.shape
  have hlen : Q.length = P.length := by have := congrArg List.length hPQ; simpa using this.symm
  have hel : ∀ (i : Nat) (x y : LV × Value), P[i]? = some x → Q[i]? = some y → x.1 = y.1 := fun i x y hx hy => by
    have h1 : (P.map (·.1))[i]? = some x.1 := by rw [List.getElem?_map, hx]; rfl
    have h2 : (Q.map (·.1))[i]? = some y.1 := by rw [List.getElem?_map, hy]; rfl
    rw [hPQ, h2] at h1
    exact (Option.some.inj h1).symm
  have HU := Lib.hid hP
  have HV := Lib.hid hQ
  have HA := Lib.hid ha3
  have HB := Lib.hid hb3
  have HE := Lib.hid hel
  unfold maxLen at ha2 hb2
  clear hP hQ ha3 hb3 hPQ hel
  have hlq : P.length ≤ cb := by omega
  rw [hlen]
  go_enter Try.func13, Try.ntmps13
  go_wp2
  go_loopg [5] P.length (fun g s5 wr => ∃ i : Nat, s5 = .int .i64 i ∧ i + g = P.length ∧ Hid (Fr No w wr))
  case atStart => exact ⟨0, rfl, by simp, Lib.hid (Fr.refl No w)⟩
  case round =>
    obtain ⟨i, rfl, hi, HF⟩ := hrel
    cases gk with
    | zero =>
      have hil : ¬ (i : Int) < (P.length : Int) := by omega
      go_wp2
      go_ret
      exact ⟨rfl, HF.out⟩
    | succ g =>
      have hil : (i : Int) < (P.length : Int) := by omega
      obtain ⟨x, hx⟩ : ∃ x, P[i]? = some x := ⟨_, List.getElem?_eq_getElem (by omega)⟩
      obtain ⟨y, hy⟩ : ∃ y, Q[i]? = some y := ⟨_, List.getElem?_eq_getElem (by omega)⟩
      have hxy := HE.out i x y hx hy
      obtain ⟨ga, oa, rfl⟩ := HA.out (by omega)
      obtain ⟨gb, ob, rfl⟩ := HB.out (by omega)
      have hP := HU.out.fr0 HF.out
      have hQ := HV.out.fr0 HF.out
      obtain ⟨f0, f1, f2, f3⟩ := hP.sl.cells4 lvC_length i hx rfl
      obtain ⟨q0, q1, q2, q3⟩ := hQ.sl.cells4 lvC_length i hy rfl
      have hkx := (hP.keys x (List.mem_of_getElem? hx)).toR strC_len
      have hky := (hQ.keys y (List.mem_of_getElem? hy)).toR strC_len
      have lf := World.block_lt_of_cell? _ _ f0
      have lq := World.block_lt_of_cell? _ _ q0
      obtain ⟨⟨xi, xt, xl, xk⟩, xv⟩ := x
      obtain ⟨⟨yi, yt, yl, yk⟩, yv⟩ := y
      dsimp only at *
      cases hxy
      obtain ⟨xa, xc, rfl, _, _, _⟩ := hkx.shape
      obtain ⟨ya, yc, rfl, _, _, _⟩ := hky.shape
      have hht : Hid (∀ W, Fr No wr W → Calls Try.prog 18 #[.slice xa xk.length xc, .slice ya xk.length yc] W fun e w' => e = .returned (.bool true) ∧ Fr No W w') := Lib.hid fun W hW => texts_calls W _ _ xk (hkx.fr0 hW) (hky.fr0 hW)
      clear hx hy hP hQ hkx hky
      have HS : Hid (∀ W, Fr No wr W → W.cell? ⟨ga, oa + i * 4, none⟩ = some (.int .i64 xi) ∧ W.cell? ⟨ga, oa + i * 4 + 1, none⟩ = some (.int .i64 xt) ∧ W.cell? ⟨ga, oa + i * 4 + 2, none⟩ = some (.int .i64 xl) ∧ W.cell? ⟨ga, oa + i * 4 + 3, none⟩ = some (.slice xa xk.length xc) ∧ W.cell? ⟨gb, ob + i * 4, none⟩ = some (.int .i64 xi) ∧ W.cell? ⟨gb, ob + i * 4 + 1, none⟩ = some (.int .i64 xt) ∧ W.cell? ⟨gb, ob + i * 4 + 2, none⟩ = some (.int .i64 xl) ∧ W.cell? ⟨gb, ob + i * 4 + 3, none⟩ = some (.slice ya xk.length yc)) := Lib.hid fun W hW => ⟨hW.cell0 f0, hW.cell0 f1, hW.cell0 f2, hW.cell0 f3, hW.cell0 q0, hW.cell0 q1, hW.cell0 q2, hW.cell0 q3⟩
      have b1 := HS.out wr (Fr.refl No wr)
      have b2 := HS.out wr.drew (Fr.refl No wr).drew
      go_upto_region 6 with fail
      go_cut [67] (fun s67 wx => s67 = .bool false ∧ Hid (Fr No wr wx))
      case first =>
        go_region_held3 (fun W => W.cell? ⟨ga, oa + i * 4, none⟩ = some (.int .i64 xi) ∧ W.cell? ⟨ga, oa + i * 4 + 1, none⟩ = some (.int .i64 xt) ∧ W.cell? ⟨ga, oa + i * 4 + 2, none⟩ = some (.int .i64 xl) ∧ W.cell? ⟨ga, oa + i * 4 + 3, none⟩ = some (.slice xa xk.length xc) ∧ W.cell? ⟨gb, ob + i * 4, none⟩ = some (.int .i64 xi) ∧ W.cell? ⟨gb, ob + i * 4 + 1, none⟩ = some (.int .i64 xt) ∧ W.cell? ⟨gb, ob + i * 4 + 2, none⟩ = some (.int .i64 xl) ∧ W.cell? ⟨gb, ob + i * 4 + 3, none⟩ = some (.slice ya xk.length yc))
          (first | with_reducible exact b1 | with_reducible exact b2 | with_reducible exact b3)
          (first | (go_at_call 18; (with_reducible refine (hht.out _ (by first | exact Fr.refl No wr | exact (Fr.refl No wr).drew)).mono ?_); rintro e w3 ⟨rfl, hf3⟩; have b3 := HS.out w3 (by first | exact hf3 | exact (Fr.refl No wr).drew.trans0 hf3)))
        all_goals
          go_wp2
          go_meet
          case rel => exact ⟨rfl, Lib.hid (by first | exact hf3 | exact (Fr.refl No wr).drew.trans0 hf3)⟩
      case rest =>
        obtain ⟨rfl, HX⟩ := hcut
        go_wp2
        go_roundg g
        case rel => exact ⟨i + 1, by go_num, by omega, Lib.hid (HF.out.trans0 HX.out)⟩
        case measure => omega
end Go.Proofs.Ytlomeohcgjgpjaa
