/- Own lemmas and contracts that the claim's proof needs, laid together. The conditions stand in each. -/
import Derived.Test.YthljnnjpmdgkoaaGreatG18
import Derived.Test.YthljnnjpmdgkoaaGreatG38
import Derived.Test.YthljnnjpmdgkoaaGreatG29
import Derived.Test.YthljnnjpmdgkoaaGreatG08
import Derived.Deep.RegionHeld3
namespace Go.Proofs.YthljnnjpmdgkoaaGreat
open Go Go.Proofs Go.ChangeShapes Go.WideShapes Go.ChangeAt Go.RowKit Go.Deep
set_option maxRecDepth 100000
section
variable {H : Type} {enc : TypeId × Value → H} {w : World} {base : Nat} {spare : Nat → Bool} {held : Bool}
theorem Tryz.cells36 : Tryz.prog.cellsOf 36 = 1 := by kernel_rfl
theorem Tryz.cells38 : Tryz.prog.cellsOf 38 = 12 := by kernel_rfl
theorem zuh (n : Nat) (cs : List Value) (x : DataW H × List MemPlace) (h : DataW.trod enc Tryz.prog w base spare held n 9 cs = some x) (_ : cs.length = 1) : ∃ y, cs = strC y := by
 obtain ⟨s, e, _⟩ := DataW.trod_string Tryz.underlying9 h; exact ⟨s, e⟩
theorem zui (n : Nat) (cs : List Value) (x : DataW H × List MemPlace) (h : DataW.trod enc Tryz.prog w base spare held n 38 cs = some x) (hl : cs.length = 12) :
 ∃ q : Cal × List Opr × List ByteArray, cs = calC q ∧ SlR w 10 opC q.1.ops q.2.1 ∧ SlR w 1 strC q.1.keys q.2.2 := by
 obtain ⟨ys, n', _, _, _, hyl, hg⟩ := DataW.trod_struct Tryz.underlying38 h
 match cs, hl with
 | [c0, c1, c2, c3, c4, c5, c6, c7, c8, c9, c10, c11], _ =>
   match ys, hyl with
   | [y0, y1, y2, y3, y4, y5], _ =>
     have g0 : DataW.trod enc Tryz.prog w base spare held n' 3 [c0] = some y0 := (by have := hg 0 _ rfl; simpa [Tryz.cells3, Value.cells] using this); have g1 : DataW.trod enc Tryz.prog w base spare held n' 33 [c1] = some y1 := (by have := hg 1 _ rfl; simpa [Tryz.cells33, Value.cells] using this); have g2 : DataW.trod enc Tryz.prog w base spare held n' 35 [c2, c3, c4, c5, c6, c7, c8] = some y2 := (by have := hg 2 _ rfl; simpa [Tryz.cells35, Value.cells] using this); have g3 : DataW.trod enc Tryz.prog w base spare held n' 3 [c9] = some y3 := (by have := hg 3 _ rfl; simpa [Tryz.cells3, Value.cells] using this); have g4 : DataW.trod enc Tryz.prog w base spare held n' 3 [c10] = some y4 := (by have := hg 4 _ rfl; simpa [Tryz.cells3, Value.cells] using this)
     have g5 : DataW.trod enc Tryz.prog w base spare held n' 36 [c11] = some y5 := (by have := hg 5 _ rfl; simpa [Tryz.cells36, Value.cells] using this); obtain ⟨s0, e0, _⟩ := DataW.trod_int Tryz.underlying3 g0; obtain ⟨u1, L1, e1, h1, _⟩ := zep opC Tryz.underlying33 Tryz.cells94 (by omega) zag (fun n cs x => znf n cs x) g1; obtain ⟨r, e2⟩ := zsm _ _ _ g2 rfl; obtain ⟨s3, e3, _⟩ := DataW.trod_int Tryz.underlying3 g3; obtain ⟨s4, e4, _⟩ := DataW.trod_int Tryz.underlying3 g4; obtain ⟨u5, L5, e5, h5, _⟩ := zep strC Tryz.underlying36 Tryz.cells9 (by omega) zds (fun n cs x => zuh n cs x) g5; unfold rgC at e2; simp only [List.cons.injEq, and_true] at e0 e1 e2 e3 e4 e5; obtain ⟨rfl, rfl, rfl, rfl, rfl, rfl, rfl⟩ := e2; subst e0 e1 e3 e4 e5; exact ⟨(⟨s0, _, r, s3, s4, _⟩, L1, L5), rfl, h1, h5⟩
theorem zjj {b0 : Nat} {v : Value} {d : DataW H} {p : List MemPlace} (hv : Value.okWide Tryz.prog w .any b0 22 v) (h : DataW.Trod enc Tryz.prog w base spare held 22 v d p) : ∃ l, CalR w v l := by
 obtain ⟨a, len, cap, rfl⟩ := okWide_slice Tryz.underlying22 hv; obtain ⟨fuel, hf⟩ := h; simp only [Value.cells] at hf; rcases open_slice Tryz.underlying22 hf with ⟨he, _⟩ | ⟨a, len', cap', m, n, D, Pl, he, hb, hl, hm, hmm, hx, hi⟩
 · simp only [List.cons.injEq, and_true] at he
   rw [he]; exact ⟨[], ⟨SlR.nil _ _ _, by simp, by simp⟩⟩
 · simp only [List.cons.injEq, and_true] at he
   rw [he]; have hlm : len' ≤ m := (by rw [hmm]; split <;> omega)
   obtain ⟨L, hL1, hL2⟩ := znj (fun i (y : Cal × List Opr × List ByteArray) => (∀ j, j < 12 → w.cell? ((a.add (i * 12)).add j) = (calC y)[j]?) ∧ SlR w 10 opC y.1.ops y.2.1 ∧ SlR w 1 strC y.1.keys y.2.2) len' fun i him => by
    obtain ⟨cs', hc, ht⟩ := hi i (by omega); rw [Tryz.cells38] at hc; obtain ⟨_, hcl, hat⟩ := World.cells?_some hc; obtain ⟨y, rfl, h1, h2⟩ := zui _ _ _ ht hcl; exact ⟨y, hat, h1, h2⟩
   refine ⟨L, ⟨⟨some a, cap', by rw [hL1], by omega, hm, fun hp => ?_⟩, fun i q hq => (hL2 i q hq).2.1, fun i q hq => (hL2 i q hq).2.2⟩⟩; obtain ⟨g, o, sp⟩ := a
   have h0 : sp = none := by
    obtain ⟨x0, hx0⟩ : ∃ x0, L[0]? = some x0 := ⟨_, List.getElem?_eq_getElem hp⟩; have := (hL2 0 x0 hx0).1 0 (by decide); have hlt : 0 < (calC x0).length := (by rw [zas]; decide); rw [Nat.zero_mul] at this; simp only [Addr.add, if_true] at this; rw [List.getElem?_eq_getElem hlt] at this; unfold World.cell? at this
    cases sp with
    | none => rfl
    | some q =>
      simp only [Option.isSome_some, if_true] at this
      split at this <;> simp at this
   subst h0; refine ⟨g, o, rfl, fun i y hy j u hu' => ?_⟩
   have hj : j < 12 := by
    have := (List.getElem?_eq_some_iff.1 hu').1
    rwa [zas] at this
   have := (hL2 i y hy).1 j hj; rw [hu'] at this; rw [← this]
   congr 1
   unfold Addr.add; by_cases h1 : i * 12 = 0
   · by_cases h2 : j = 0
     · simp [h1, h2]
     · simp [h1, h2]
   · by_cases h2 : j = 0
     · simp [h1, h2]
     · simp [h1, h2]
end
section
variable {H : Type} {enc : TypeId × Value → H} {w : World} {base : Nat} {spare : Nat → Bool} {held : Bool}
theorem zlq {b0 : Nat} {v : Value} {d : DataW H} {p : List MemPlace} (hv : Value.okWide Tryz.prog w .any b0 53 v) (h : DataW.Trod enc Tryz.prog w base spare held 53 v d p) : ∃ c, v = cmpV c := by
 obtain ⟨cs, rfl, hsz⟩ := okWide_struct Tryz.underlying53 hv; obtain ⟨l⟩ := cs; obtain ⟨fuel, hf⟩ := h; obtain ⟨r, hr⟩ := zpd _ _ _ hf (by have := hsz.trans Tryz.cells53; simpa [Value.cells] using this); refine ⟨r, ?_⟩; have : l = cmpC r := by simpa [Value.cells] using hr
 rw [this]
 rfl
end
open Go Go.Proofs Go.RowKit
set_option maxHeartbeats 4000000 in
theorem zdi (w : World) (u v : Value) (Z1 Z2 : List (Ans × Value)) (hu : AnsR w u Z1) (hv : AnsR w v Z2) (he : Z1.map (·.1) = Z2.map (·.1)) (hl : Z1.length ≤ 1099511627) :
 Calls Tryz.prog 35 #[u, v] w fun e w' => e = .returned (.bool true) ∧ Fr No w w' := by
 obtain ⟨a, ca, rfl, ha1, ha2, ha3⟩ := hu.sl.shape; obtain ⟨b, cb, rfl, hb1, hb2, hb3⟩ := hv.sl.shape; have hlen : Z2.length = Z1.length := by have := congrArg List.length he; simpa using this.symm
 have hnx : ∀ (i : Nat) (q : Ans × Value), Z1[i]? = some q → ∃ v2, Z2[i]? = some (q.1, v2) := fun i q hq => by
  have h1 := congrArg (fun l : List Ans => l[i]?) he; simp only [List.getElem?_map, hq, Option.map_some] at h1
  cases h2 : Z2[i]? with
  | none => rw [h2] at h1; cases h1
  | some q2 =>
    rw [h2] at h1; obtain ⟨x2, v2⟩ := q2; refine ⟨v2, ?_⟩; simp only [Option.map_some, Option.some.injEq] at h1; rw [h1]
 have HU := H_ hu; have HV := H_ hv; have HA := H_ ha3; have HB := H_ hb3; have HNX := H_ hnx; clear hu hv ha3 hb3 hnx he; rw [hlen]; rw [hlen] at HV HB hb1; go_enter Tryz.func35, Tryz.ntmps35; go_wp2
 go_loopg [5] Z1.length (fun g s5 wr => ∃ i : Nat, s5 = .int .i64 i ∧ i + g = Z1.length ∧ Hid (Fr No w wr))
 case atStart => exact ⟨0, rfl, by simp, H_ (Fr.refl No w)⟩
 case round =>
  obtain ⟨i, rfl, hi, HF⟩ := hrel
  cases gk with
  | zero =>
    have hil : ¬ (i : Int) < (Z1.length : Int) := (by omega); go_wp2; go_ret; exact ⟨rfl, HF.out⟩
  | succ g =>
    have hil : (i : Int) < (Z1.length : Int) := (by omega); obtain ⟨q, hx⟩ : ∃ q, Z1[i]? = some q := ⟨_, List.getElem?_eq_getElem (by omega)⟩; obtain ⟨v2, hy⟩ := HNX.out i q hx; obtain ⟨ga, oa, rfl⟩ := HA.out (by omega); obtain ⟨gb, ob, rfl⟩ := HB.out (by omega); have hua := HU.out.sl.fr0 HF.out; have hvb := HV.out.sl.fr0 HF.out; rw [← hlen] at hvb; have f0 := hua.cell0 zbk i hx rfl; have q0 := hvb.cell0 zbk i hy rfl; have f1 := hua.cell zbk i 1 hx rfl; have q1 := hvb.cell zbk i 1 hy rfl; have f2 := hua.cell zbk i 2 hx rfl; have q2 := hvb.cell zbk i 2 hy rfl; have f3 := hua.cell zbk i 3 hx rfl; have q3 := hvb.cell zbk i 3 hy rfl; have lf := World.block_lt_of_cell? _ _ f0; have lq := World.block_lt_of_cell? _ _ q0; have hk1 := (HU.out.kvs i q hx).fr0 HF.out; have hk2 := (HV.out.kvs i _ hy).fr0 HF.out
    have hkl : q.1.kvs.length ≤ 9223372036854775807 := by
     obtain ⟨_, _, _, k1, k2, _⟩ := hk1.shape; have : maxLen = 9223372036854775807 := rfl; omega
    have CK : Hid (∀ W, Fr No wr W → Calls Tryz.prog 54 #[q.2, v2] W fun e w' => e = .returned (.bool true) ∧ Fr No W w') := H_ fun W hW => zfy W _ _ _ (hk1.fr0 hW) (hk2.fr0 hW) hkl; obtain ⟨⟨x1, x2, x3, x4⟩, v1⟩ := q; clear hx hy hua hvb hk1 hk2; dsimp only at f0 f1 f2 f3 q0 q1 q2 q3 CK; have HS : Hid (∀ W, Fr No wr W → W.cell? ⟨ga, oa + i * 4, none⟩ = some (.int .i64 x1) ∧ W.cell? ⟨ga, oa + i * 4 + 1, none⟩ = some v1 ∧ W.cell? ⟨ga, oa + i * 4 + 2, none⟩ = some (.int .i64 x3) ∧ W.cell? ⟨ga, oa + i * 4 + 3, none⟩ = some (.bool x4) ∧ W.cell? ⟨gb, ob + i * 4, none⟩ = some (.int .i64 x1) ∧ W.cell? ⟨gb, ob + i * 4 + 1, none⟩ = some v2 ∧ W.cell? ⟨gb, ob + i * 4 + 2, none⟩ = some (.int .i64 x3) ∧ W.cell? ⟨gb, ob + i * 4 + 3, none⟩ = some (.bool x4)) := H_ fun W hW => ⟨hW.cell0 f0, hW.cell0 f1, hW.cell0 f2, hW.cell0 f3, hW.cell0 q0, hW.cell0 q1, hW.cell0 q2, hW.cell0 q3⟩
    have b1 := HS.out wr (Fr.refl No wr); have b2 := HS.out wr.drew (Fr.refl No wr).drew; have C1 := H_ (CK.out wr (Fr.refl No wr)); have C1d := H_ (CK.out wr.drew (Fr.refl No wr).drew); have HD := H_ (Fr.refl No wr).drew; go_upto_region 6 with fail
    go_cut [67] (fun sc wx => sc = .bool false ∧ Hid (Fr No wr wx))
    case first =>
     go_region_held3 (fun W => W.cell? ⟨ga, oa + i * 4, none⟩ = some (.int .i64 x1) ∧ W.cell? ⟨ga, oa + i * 4 + 1, none⟩ = some v1 ∧ W.cell? ⟨ga, oa + i * 4 + 2, none⟩ = some (.int .i64 x3) ∧ W.cell? ⟨ga, oa + i * 4 + 3, none⟩ = some (.bool x4) ∧ W.cell? ⟨gb, ob + i * 4, none⟩ = some (.int .i64 x1) ∧ W.cell? ⟨gb, ob + i * 4 + 1, none⟩ = some v2 ∧ W.cell? ⟨gb, ob + i * 4 + 2, none⟩ = some (.int .i64 x3) ∧ W.cell? ⟨gb, ob + i * 4 + 3, none⟩ = some (.bool x4))
      (first | with_reducible exact b1 | with_reducible exact b2 | with_reducible exact b3 | with_reducible exact b3d)
      (first
        | (go_at_call 54; (first | with_reducible refine C1.out.mono ?_ | with_reducible refine C1d.out.mono ?_); rintro e w3 ⟨rfl, hf3⟩
           have hf3' : Fr No wr w3 := (by first | with_reducible exact hf3 | with_reducible exact HD.out.trans0 hf3); have b3 := HS.out w3 hf3'; have b3d := HS.out w3.drew hf3'.drew; have HF3 := H_ hf3'; have HD3 := H_ hf3'.drew; clear hf3 hf3'))
     all_goals
      go_wp2; go_meet
      case rel => exact ⟨rfl, by first | with_reducible exact HF3 | with_reducible exact HD3⟩
    case rest =>
     obtain ⟨rfl, HX⟩ := hcut; go_wp2; go_roundg g
     case rel => exact ⟨i + 1, by go_num, by omega, H_ (HF.out.trans0 HX.out)⟩
     case measure => omega
end Go.Proofs.YthljnnjpmdgkoaaGreat