/- container/heap's up, down, Push and Pop over the queue. The condition: the queue lies in the table's cell. -/
import Derived.Test.YtlomeohcgjgpjaaLeaJ
import Derived.IntWalk
namespace Go.Proofs.Ytlomeohcgjgpjaa
open Go Go.Proofs Go.RowKit
set_option maxRecDepth 100000

def UpOut (w w' : World) (t : Nat) (a0 a1 a2 qv : Value) (q : List Ent) : Prop := ∃ q', QAt w' t a0 a1 a2 qv q' ∧ q'.Perm q ∧ HeapOk q' ∧ Fr (fun b => qv.ownBlock = some b) w w'
set_option maxHeartbeats 1000000 in
theorem up_calls (w : World) (t : Nat) (a0 a1 a2 qv : Value) (q : List Ent) (H : QAt w t a0 a1 a2 qv q) (hl : q.length ≤ 1099511627) (j : Nat) (hj : j < q.length) (hi : UpInv q j) :
    Calls Try.prog 86 #[.iface 84 (.pointer (some ⟨t, 3, none⟩)), .int .i64 j] w fun e w' => e = .returned (.tuple #[]) ∧ UpOut w w' t a0 a1 a2 qv q := by
  have HH := Lib.hid H
  have HI := Lib.hid hi
  clear H hi
  go_enter Try.func86, Try.ntmps86
  go_wp2
  go_loopg [1] j (fun gg s1 wr => ∃ (k : Nat) (p : List Ent), s1 = .int .i64 k ∧ k = gg ∧ k < p.length ∧ p.length ≤ 1099511627 ∧ Hid (QAt wr t a0 a1 a2 qv p) ∧ Hid (p.Perm q) ∧ Hid (UpInv p k) ∧ Hid (Fr (fun b => qv.ownBlock = some b) w wr))
  case atStart => exact ⟨j, q, rfl, rfl, hj, hl, HH, Lib.hid (List.Perm.refl _), HI, Lib.hid (Fr.refl _ _)⟩
  case round =>
    obtain ⟨k, p, rfl, rfl, hk, hpl, HQ, HP, HU, HF⟩ := hrel
    by_cases h0 : k = 0
    · subst h0
      go_wp2
      refine bodyPost_end (results_none rfl _ _ _) rfl ?_
      exact ⟨rfl, p, HQ.out, HP.out, HU.out.done (.inl rfl), HF.out⟩
    · obtain ⟨m, rfl⟩ : ∃ m, k = m + 1 := ⟨k - 1, by omega⟩
      have hm := mLess wr t qv (HQ.out.obj.cell 3 rfl)
      obtain ⟨x, hx⟩ : ∃ x, p[m / 2]? = some x := ⟨_, List.getElem?_eq_getElem (by omega)⟩
      obtain ⟨y, hy⟩ : ∃ y, p[m + 1]? = some y := ⟨_, List.getElem?_eq_getElem hk⟩
      have e2 : ((m / 2 : Nat) : Int) = (m : Int) / 2 := by omega
      have e3 : ((m + 1 : Nat) : Int) = (m : Int) + 1 := by omega
      have cL := qLess_calls wr qv p HQ.out.sl hpl (m + 1) (m / 2) y x hy hx
      have cS := fun n => qSwap_calls (wr.drewN n) qv p (HQ.out.sl.fr0 (Fr.drewN No wr n)) hpl (m / 2) (m + 1) (by omega) hk
      rw [e2, e3] at cL
      rw [e2, e3] at cS
      have e114 := e114
      have e115 := e115
      have CL := Lib.hid cL
      have CS := Lib.hid cS
      have HX := Lib.hid hx
      have HY := Lib.hid hy
      clear cL cS hx hy e2 e3
      by_cases hlt : y.1 < x.1
      · have hd : decide (y.1 < x.1) = true := by simpa using hlt
        have HD := Lib.hid hd
        clear hd
        go_wp2_with (first
          | (go_at_call 114; (with_reducible refine CL.out.mono ?_); rintro e w1 ⟨rfl, n, rfl⟩; rw [HD.out]; have hsw := mSwap (wr.drewN n) t qv ((HQ.out.fr0 (Fr.drewN No wr n)).obj.cell 3 rfl))
          | (go_at_call 115; (with_reducible refine (CS.out _).mono ?_); rintro e w2 ⟨rfl, hs2, hf2⟩; have HS2 := Lib.hid hs2; have HF2 := Lib.hid hf2; clear hs2 hf2))
        have hfq : Fr (fun b => qv.ownBlock = some b) wr w2 := (Fr.drewN _ wr n).trans HF2.out fun _ _ s => s
        have HQ2 := Lib.hid (show QAt w2 t a0 a1 a2 qv (swp p (m / 2) (m + 1)) from ⟨HQ.out.obj.fr hfq HQ.out.d, HS2.out, HQ.out.d⟩)
        have HFq := Lib.hid (HF.out.trans hfq fun _ _ s => s)
        clear hfq
        go_roundg (m / 2)
        case rel => exact ⟨m / 2, swp p (m / 2) (m + 1), by go_num, rfl, by rw [swp_length]; omega, by rw [swp_length]; exact hpl, HQ2, Lib.hid ((swp_perm (by omega) hk).trans HP.out), Lib.hid (HU.out.step (by omega) HX.out HY.out hlt), HFq⟩
        case measure => omega
      · have hd : decide (y.1 < x.1) = false := by simpa using hlt
        have HD := Lib.hid hd
        clear hd
        go_wp2_with (go_at_call 114; (with_reducible refine CL.out.mono ?_); rintro e w1 ⟨rfl, n, rfl⟩; rw [HD.out])
        refine bodyPost_end (results_none rfl _ _ _) rfl ?_
        exact ⟨rfl, p, HQ.out.fr0 (Fr.drewN No wr n), HP.out, HU.out.done (.inr ⟨x, y, HX.out, HY.out, by omega⟩), HF.out.trans0 (Fr.drewN No wr n)⟩

theorem lessA {W : World} {t : Nat} {a0 a1 a2 qv : Value} {p : List Ent} (h : QAt W t a0 a1 a2 qv p) (hl : p.length ≤ 1099511627) (j k : Nat) (J K : Int) (hJ : J = j) (hK : K = k) (x y : Ent) (hx : p[j]? = some x) (hy : p[k]? = some y) (b : Bool) (hb : decide (x.1 < y.1) = b) :
    Calls Try.prog 114 #[qv, .int .i64 J, .int .i64 K] W fun e w' => e = .returned (.bool b) ∧ ∃ n, w' = W.drewN n := by
  subst hJ hK hb
  exact qLess_calls W qv p h.sl hl j k x y hx hy
theorem swapA {W : World} {t : Nat} {a0 a1 a2 qv : Value} {p : List Ent} (h : QAt W t a0 a1 a2 qv p) (hl : p.length ≤ 1099511627) (j k : Nat) (J K : Int) (hJ : J = j) (hK : K = k) (hj : j < p.length) (hk : k < p.length) :
    Calls Try.prog 115 #[qv, .int .i64 J, .int .i64 K] W fun e w' => e = .returned (.tuple #[]) ∧ QAt w' t a0 a1 a2 qv (swp p j k) ∧ Fr (fun b => qv.ownBlock = some b) W w' := by
  subst hJ hK
  exact (qSwap_calls W qv p h.sl hl j k hj hk).mono fun _ _ ⟨h1, h2, h3⟩ => ⟨h1, ⟨h.obj.fr h3 h.d, h2, h.d⟩, h3⟩
def DownOut (w w' : World) (t : Nat) (a0 a1 a2 qv : Value) (q : List Ent) (n : Nat) : Prop := ∃ q', QAt w' t a0 a1 a2 qv q' ∧ q'.Perm q ∧ HeapOk (q'.take n) ∧ q'[n]? = q[n]? ∧ Fr (fun b => qv.ownBlock = some b) w w'
def SomeBool (e : Ending) : Prop := ∃ b, e = .returned (.bool b)
set_option maxHeartbeats 2000000 in
theorem down_calls (w : World) (t : Nat) (a0 a1 a2 qv : Value) (q : List Ent) (H : QAt w t a0 a1 a2 qv q) (hl : q.length ≤ 1099511627) (n : Nat) (hn : n < q.length) (hi : DownInv q n 0) :
    Calls Try.prog 54 #[.iface 84 (.pointer (some ⟨t, 3, none⟩)), .int .i64 0, .int .i64 n] w fun e w' => SomeBool e ∧ DownOut w w' t a0 a1 a2 qv q n := by
  have HH := Lib.hid H
  have HI := Lib.hid hi
  clear H hi
  have hn9 : n < 1099511627 := by omega
  go_enter Try.func54, Try.ntmps54
  go_wp2
  go_loopg [7] (n + 1) (fun gg s1 wr => ∃ (k : Nat) (p : List Ent), s1 = .int .i64 k ∧ gg = n + 1 - k ∧ k ≤ n ∧ p.length = q.length ∧ Hid (QAt wr t a0 a1 a2 qv p) ∧ Hid (p.Perm q) ∧ Hid (DownInv p n k) ∧ Hid (p[n]? = q[n]?) ∧ Hid (Fr (fun b => qv.ownBlock = some b) w wr))
  case atStart => exact ⟨0, q, rfl, rfl, Nat.zero_le _, rfl, HH, Lib.hid (List.Perm.refl _), HI, Lib.hid rfl, Lib.hid (Fr.refl _ _)⟩
  case round =>
    obtain ⟨k, p, rfl, hgk, hk, hpl, HQ, HP, HU, HLst, HF⟩ := hrel
    have HPL := Lib.hid hpl
    have HGK := Lib.hid hgk
    have hp9 : p.length ≤ 1099511627 := by omega
    have hnp : n < p.length := by omega
    clear hpl hgk
    by_cases hA : n ≤ 2 * k + 1
    · go_wp2
      all_goals first | (exfalso; omega) | skip
      go_ret
      exact ⟨⟨_, rfl⟩, p, HQ.out, HP.out, HU.out.done (.inl hA), HLst.out, HF.out⟩
    · have hm := mLess wr t qv (HQ.out.obj.cell 3 rfl)
      have e114 := e114
      have e115 := e115
      obtain ⟨x, hx⟩ : ∃ x, p[k]? = some x := ⟨_, List.getElem?_eq_getElem (by omega)⟩
      obtain ⟨y1, hy1⟩ : ∃ y, p[2 * k + 1]? = some y := ⟨_, List.getElem?_eq_getElem (by omega)⟩
      have HX := Lib.hid hx
      have HY1 := Lib.hid hy1
      clear hx hy1
      by_cases hB : n ≤ 2 * k + 2
      · have hmin := low_child (n := n) HY1.out (.inl hB)
        have HMIN := Lib.hid hmin
        clear hmin
        by_cases hlt : y1.1 < x.1
        · go_wp2_with (first
            | (go_at_call 114; (with_reducible refine (lessA HQ.out hp9 (2 * k + 1) k (2 * (k : Int) + 1) k (by omega) rfl y1 x HY1.out HX.out true (by simpa using hlt)).mono ?_); rintro e w1 ⟨rfl, n2, rfl⟩; have hsw := mSwap _ t qv ((HQ.out.fr0 (Fr.drewN No wr n2)).obj.cell 3 rfl))
            | (go_at_call 115; (with_reducible refine (swapA (HQ.out.fr0 (Fr.drewN No wr n2)) hp9 k (2 * k + 1) k (2 * (k : Int) + 1) rfl (by omega) (by omega) (by omega)).mono ?_); rintro e w2 ⟨rfl, hq2, hf2⟩; have HQ2 := Lib.hid hq2; have HF2 := Lib.hid hf2; clear hq2 hf2))
          all_goals first | (exfalso; omega) | skip
          have HFq := Lib.hid (HF.out.trans ((Fr.drewN (fun b => qv.ownBlock = some b) wr n2).trans HF2.out fun _ _ s => s) fun _ _ s => s)
          go_roundg (n + 1 - (2 * k + 1))
          case rel => exact ⟨2 * k + 1, swp p k (2 * k + 1), by go_num, rfl, by omega, by rw [swp_length]; exact HPL.out, HQ2, Lib.hid ((swp_perm (by omega) (by omega)).trans HP.out), Lib.hid (HU.out.step (by omega) (by omega) (by omega) (by omega) HX.out HY1.out hlt HMIN.out), Lib.hid (by rw [swp_get (by omega) (by omega), if_neg (by omega), if_neg (by omega)]; exact HLst.out), HFq⟩
          case measure => have := HGK.out; omega
        · go_wp2_with (first
            | (go_at_call 114; (with_reducible refine (lessA HQ.out hp9 (2 * k + 1) k (2 * (k : Int) + 1) k (by omega) rfl y1 x HY1.out HX.out false (by simpa using hlt)).mono ?_); rintro e w1 ⟨rfl, n2, rfl⟩))
          all_goals first | (exfalso; omega) | skip
          go_ret
          exact ⟨⟨_, rfl⟩, p, HQ.out.fr0 (Fr.drewN No wr n2), HP.out, HU.out.done (.inr ⟨x, y1.1, HX.out, by omega, HMIN.out⟩), HLst.out, HF.out.trans0 (Fr.drewN No wr n2)⟩
      · obtain ⟨y2, hy2⟩ : ∃ y, p[2 * k + 2]? = some y := ⟨_, List.getElem?_eq_getElem (by omega)⟩
        have HY2 := Lib.hid hy2
        clear hy2
        by_cases h12 : y2.1 < y1.1
        · have hmin := low_child2 (n := n) HY1.out HY2.out h12
          have HMIN := Lib.hid hmin
          clear hmin
          by_cases hlt : y2.1 < x.1
          · go_wp2_with (first
              | (go_at_call 114; (with_reducible refine (lessA HQ.out hp9 (2 * k + 2) (2 * k + 1) (2 * (k : Int) + 1 + 1) (2 * (k : Int) + 1) (by omega) (by omega) y2 y1 HY2.out HY1.out true (by simpa using h12)).mono ?_); rintro e w0 ⟨rfl, n1, rfl⟩; have hm1 := mLess _ t qv ((HQ.out.fr0 (Fr.drewN No wr n1)).obj.cell 3 rfl))
              | (go_at_call 114; (with_reducible refine (lessA (HQ.out.fr0 (Fr.drewN No wr n1)) hp9 (2 * k + 2) k (2 * (k : Int) + 1 + 1) k (by omega) rfl y2 x HY2.out HX.out true (by simpa using hlt)).mono ?_); rintro e w1 ⟨rfl, n2, rfl⟩; have hsw := mSwap _ t qv ((HQ.out.fr0 (Fr.drewN No wr (n1 + n2))).obj.cell 3 rfl))
              | (go_at_call 115; (with_reducible refine (swapA (HQ.out.fr0 (Fr.drewN No wr (n1 + n2))) hp9 k (2 * k + 2) k (2 * (k : Int) + 1 + 1) rfl (by omega) (by omega) (by omega)).mono ?_); rintro e w2 ⟨rfl, hq2, hf2⟩; have HQ2 := Lib.hid hq2; have HF2 := Lib.hid hf2; clear hq2 hf2))
            all_goals first | (exfalso; omega) | skip
            have HFq := Lib.hid (HF.out.trans ((Fr.drewN (fun b => qv.ownBlock = some b) wr (n1 + n2)).trans HF2.out fun _ _ s => s) fun _ _ s => s)
            go_roundg (n + 1 - (2 * k + 2))
            case rel => exact ⟨2 * k + 2, swp p k (2 * k + 2), by go_num, rfl, by omega, by rw [swp_length]; exact HPL.out, HQ2, Lib.hid ((swp_perm (by omega) (by omega)).trans HP.out), Lib.hid (HU.out.step (by omega) (by omega) (by omega) (by omega) HX.out HY2.out hlt HMIN.out), Lib.hid (by rw [swp_get (by omega) (by omega), if_neg (by omega), if_neg (by omega)]; exact HLst.out), HFq⟩
            case measure => have := HGK.out; omega
          · go_wp2_with (first
              | (go_at_call 114; (with_reducible refine (lessA HQ.out hp9 (2 * k + 2) (2 * k + 1) (2 * (k : Int) + 1 + 1) (2 * (k : Int) + 1) (by omega) (by omega) y2 y1 HY2.out HY1.out true (by simpa using h12)).mono ?_); rintro e w0 ⟨rfl, n1, rfl⟩; have hm1 := mLess _ t qv ((HQ.out.fr0 (Fr.drewN No wr n1)).obj.cell 3 rfl))
              | (go_at_call 114; (with_reducible refine (lessA (HQ.out.fr0 (Fr.drewN No wr n1)) hp9 (2 * k + 2) k (2 * (k : Int) + 1 + 1) k (by omega) rfl y2 x HY2.out HX.out false (by simpa using hlt)).mono ?_); rintro e w1 ⟨rfl, n2, rfl⟩))
            all_goals first | (exfalso; omega) | skip
            go_ret
            exact ⟨⟨_, rfl⟩, p, HQ.out.fr0 (Fr.drewN No wr (n1 + n2)), HP.out, HU.out.done (.inr ⟨x, y2.1, HX.out, by omega, HMIN.out⟩), HLst.out, HF.out.trans0 (Fr.drewN No wr (n1 + n2))⟩
        · have hmin := low_child (n := n) HY1.out (.inr ⟨y2, HY2.out, h12⟩)
          have HMIN := Lib.hid hmin
          clear hmin
          by_cases hlt : y1.1 < x.1
          · go_wp2_with (first
              | (go_at_call 114; (with_reducible refine (lessA HQ.out hp9 (2 * k + 2) (2 * k + 1) (2 * (k : Int) + 1 + 1) (2 * (k : Int) + 1) (by omega) (by omega) y2 y1 HY2.out HY1.out false (by simpa using h12)).mono ?_); rintro e w0 ⟨rfl, n1, rfl⟩; have hm1 := mLess _ t qv ((HQ.out.fr0 (Fr.drewN No wr n1)).obj.cell 3 rfl))
              | (go_at_call 114; (with_reducible refine (lessA (HQ.out.fr0 (Fr.drewN No wr n1)) hp9 (2 * k + 1) k (2 * (k : Int) + 1) k (by omega) rfl y1 x HY1.out HX.out true (by simpa using hlt)).mono ?_); rintro e w1 ⟨rfl, n2, rfl⟩; have hsw := mSwap _ t qv ((HQ.out.fr0 (Fr.drewN No wr (n1 + n2))).obj.cell 3 rfl))
              | (go_at_call 115; (with_reducible refine (swapA (HQ.out.fr0 (Fr.drewN No wr (n1 + n2))) hp9 k (2 * k + 1) k (2 * (k : Int) + 1) rfl (by omega) (by omega) (by omega)).mono ?_); rintro e w2 ⟨rfl, hq2, hf2⟩; have HQ2 := Lib.hid hq2; have HF2 := Lib.hid hf2; clear hq2 hf2))
            all_goals first | (exfalso; omega) | skip
            have HFq := Lib.hid (HF.out.trans ((Fr.drewN (fun b => qv.ownBlock = some b) wr (n1 + n2)).trans HF2.out fun _ _ s => s) fun _ _ s => s)
            go_roundg (n + 1 - (2 * k + 1))
            case rel => exact ⟨2 * k + 1, swp p k (2 * k + 1), by go_num, rfl, by omega, by rw [swp_length]; exact HPL.out, HQ2, Lib.hid ((swp_perm (by omega) (by omega)).trans HP.out), Lib.hid (HU.out.step (by omega) (by omega) (by omega) (by omega) HX.out HY1.out hlt HMIN.out), Lib.hid (by rw [swp_get (by omega) (by omega), if_neg (by omega), if_neg (by omega)]; exact HLst.out), HFq⟩
            case measure => have := HGK.out; omega
          · go_wp2_with (first
              | (go_at_call 114; (with_reducible refine (lessA HQ.out hp9 (2 * k + 2) (2 * k + 1) (2 * (k : Int) + 1 + 1) (2 * (k : Int) + 1) (by omega) (by omega) y2 y1 HY2.out HY1.out false (by simpa using h12)).mono ?_); rintro e w0 ⟨rfl, n1, rfl⟩; have hm1 := mLess _ t qv ((HQ.out.fr0 (Fr.drewN No wr n1)).obj.cell 3 rfl))
              | (go_at_call 114; (with_reducible refine (lessA (HQ.out.fr0 (Fr.drewN No wr n1)) hp9 (2 * k + 1) k (2 * (k : Int) + 1) k (by omega) rfl y1 x HY1.out HX.out false (by simpa using hlt)).mono ?_); rintro e w1 ⟨rfl, n2, rfl⟩))
            all_goals first | (exfalso; omega) | skip
            go_ret
            exact ⟨⟨_, rfl⟩, p, HQ.out.fr0 (Fr.drewN No wr (n1 + n2)), HP.out, HU.out.done (.inr ⟨x, y1.1, HX.out, by omega, HMIN.out⟩), HLst.out, HF.out.trans0 (Fr.drewN No wr (n1 + n2))⟩
end Go.Proofs.Ytlomeohcgjgpjaa
