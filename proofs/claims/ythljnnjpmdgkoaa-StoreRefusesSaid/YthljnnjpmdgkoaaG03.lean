/- The package index: put of a pair into a list, Set at a tree of one node. The condition: at most nine keys. The package index: Set at a tree of one node. The condition: fewer than nine keys. What the store needs of the package index (TreeOk), and that a tree of one node has it. The condition there: at most nine keys. Own lemmas on maps keyed by ints (MapAt): look up, store, delete, make. No condition but that keys are of int's range. -/
import Derived.Test.YthljnnjpmdgkoaaG01
import Derived.Test.YthljnnjpmdgkoaaG02
import Derived.Test.YthljnnjpmdgkoaaG00
import Derived.StillTailTactics
import Derived.Maps.OwnOps
import Derived.Maps.OwnSet
namespace Go.Proofs.Ythljnnjpmdgkoaa
open Go Go.Proofs Go.RowKit
set_option maxRecDepth 100000

theorem info127 : (Try.prog.info? 127).map (fun i => (i.zero, i.size, i.bytes)) = some (some (.agg #[.string ByteArray.empty, .int .i64 0]), 2, 24) := by kernel_rfl

theorem insert_eq {α : Type} (L : List α) (x : α) (i : Nat) (hi : i ≤ L.length) :
    (((L ++ [x]).take (i + 1) ++ ((L ++ [x]).drop i).take (L.length - i) ++ (L ++ [x]).drop (i + 1 + (L.length - i))).set i x) = L.take i ++ x :: L.drop i := by
  have h1 : (L ++ [x]).drop (i + 1 + (L.length - i)) = [] := List.drop_eq_nil_of_le (by simp; omega)
  have h2 : ((L ++ [x]).drop i).take (L.length - i) = L.drop i := by
    rw [List.drop_append_of_le_length hi, List.take_append_of_le_length (by simp), List.take_of_length_le (by simp)]
  rw [h1, h2, List.append_nil]
  by_cases h : i < L.length
  · have h3 : (L ++ [x]).take (i + 1) = L.take i ++ [L[i]] := by
      rw [List.take_append_of_le_length (by omega), List.take_succ_eq_append_getElem h]
    rw [h3, List.append_assoc, List.set_append_right _ _ (by simp; omega)]
    simp [show i - min i L.length = 0 from by omega]
  · obtain rfl : i = L.length := by omega
    rw [List.take_of_length_le (by simp)]
    simp

set_option maxHeartbeats 1000000 in
theorem putPair_calls (w : World) (v : Value) (L : Pairs) (i : Nat) (x : ByteArray × Int) (hv : SlF w 127 2 pairC v L) (hi : i ≤ L.length) (hl : L.length ≤ 1099511627) :
    Calls Try.prog 144 #[v, .int .i64 i, .agg #[.string x.1, .int .i64 x.2]] w fun e w' => ∃ g o cap, e = .returned (.slice (some ⟨g, o, none⟩) (L.length + 1) cap) ∧
      SlF w' 127 2 pairC (.slice (some ⟨g, o, none⟩) (L.length + 1) cap) (L.take i ++ x :: L.drop i) ∧ Fr (fun b => v.ownBlock = some b) w w' ∧ (v.ownBlock = some g ∨ w.heap.size ≤ g) := by
  obtain ⟨i0, hi0, hz0, hz1, hz2⟩ := info_parts info127
  have hnew := cells_new (w.alloc (.cells #[.string x.1, .int .i64 x.2] 127)) [.string x.1, .int .i64 x.2] 127 (0, 0)
  have HV := Lib.hid hv; clear hv
  have hil : (0 : Int) ≤ (i : Int) := by omega
  go_enter Try.func144, Try.ntmps144
  go_wp2_with (at_builtin; refine wpList_append_f rfl _ _ 124 rfl 127 i0 _ 2 24 Try.underlying124 hi0 hz0 hz1 hz2 rfl (by decide) v L rfl ((HV.out.alloc _).alloc _) (w.heap.size + 1) 1 x rfl (by simpa [pairC] using hnew) rfl ?c1 ?c2 ?c3 ?_)
  case c1 => intro u hu; simp [pairC] at hu; rcases hu with rfl | rfl <;> rfl
  case c2 => unfold maxLen; omega
  case c3 => omega
  intro g o cap w1 hs1 hg1 hb1 hlt1
  have hgl := HV.out.lt
  have hF1 : Fr (fun b => v.ownBlock = some b) w w1 := ((((Fr.refl _ w).alloc _).alloc _).grown hg1 fun k hk => .inl hk)
  have hgne : g ≠ w.heap.size := by
    rintro rfl
    rcases hb1 with e | e
    · have := hgl _ e; omega
    · omega
  have hgnew : v.ownBlock = some g ∨ w.heap.size ≤ g := by
    rcases hb1 with e | e
    · exact .inl e
    · right; omega
  -- the box of x
  have hx1 : w1.heap[w.heap.size]? = some (.cells #[.string x.1, .int .i64 x.2] 127 (0, 0)) := by
    rw [hg1.block w.heap.size (by simp; omega) (fun e => by have := hgl _ e.symm; omega)]
    exact alloc_old (alloc_at _ _ _ rfl) _
  obtain ⟨cur, hcur, hncap, hfit⟩ : ∃ cur, w1.heap[g]? = some (.cells cur 127 (0, 0)) ∧ L.length + 1 ≤ cap ∧ o + cap * 2 ≤ cur.size := by
    rcases hs1.2 with ⟨h0, _⟩ | ⟨_, _, _, cur, hv, hc, h2, h3, h4, h5⟩
    · cases h0
    · simp only [Value.slice.injEq, Option.some.injEq, Addr.mk.injEq, and_true] at hv
      obtain ⟨⟨rfl, rfl⟩, _, rfl⟩ := hv
      exact ⟨cur, hc, by simpa using h2, h4⟩
  have hL1 : (L ++ [x]).length = L.length + 1 := by simp
  have H1 := Lib.hid hs1; clear hs1
  have HG1 := Lib.hid hg1; clear hg1
  have HL := Lib.hid hL1; clear hL1
  clear hnew
  have hi1 : (i : Int) + 1 ≤ (L.length : Int) + 1 := by omega
  have hi5 : (0 : Int) ≤ (i : Int) + 1 := by omega
  have hi2 : (i : Int) ≤ (L.length : Int) + 1 := by omega
  have hi3 : i + 1 ≤ L.length + 1 := by omega
  have hi4 : i ≤ L.length + 1 := by omega
  go_wp2_with fail
  refine wp_region_still_tail 7 (by kernel_rfl) (by kernel_rfl) ?_
  simp only [List.take_succ_cons, List.take_zero, List.drop_succ_cons, List.drop_zero]
  change wpStill _ _ w1.drew _ _ _
  repeat (refine wpStill_step (fun K hK => ?_); go_simp; (try go_bits); refine hK _ ?_; clear hK K)
  refine wpStill_nil ?_
  change wpList _ _ _ _ _ w1.drew
  have hlen2 : ((((L ++ [x]).drop i).take (L.length - i)).flatMap pairC).length = (L.length - i) * 2 := by
    rw [flat_length pairC_length]; congr 1; simp; omega
  have hmin : Nat.min (L.length + 1 - i) (L.length - i) = L.length - i := Nat.min_eq_right (by omega)
  refine wpList_copy_sl rfl _ _ 124 124 127 i0 rfl Try.underlying124 hi0 _ _ _ _ _ _ g (o + (i + 1) * 2) cur 127 ((((L ++ [x]).drop i).take (L.length - i)).flatMap pairC) rfl rfl hcur (by rw [hlen2, hz1, hmin]) ?hpos ?hfit ?h1 ?_
  case hpos =>
    intro hp
    rw [hlen2] at hp
    rw [if_neg (by omega), if_neg (by omega)]
    refine ⟨rfl, _, rfl, fun j u hu => ?_⟩
    have hj := (List.getElem?_eq_some_iff.1 hu).1
    rw [hlen2] at hj
    have hadd : (⟨g, o + i * 2, none⟩ : Addr).add j = ⟨g, o + (i * 2 + j), none⟩ := by unfold Addr.add; split <;> simp_all [Nat.add_assoc]
    rw [hadd]
    refine Sl.cell (by have := H1.out; unfold SlF at this; rw [HL.out] at this; exact this) (i * 2 + j) ?_
    rw [← flat_take pairC_length, List.getElem?_take, if_pos (by omega)] at hu
    rw [← hu]
    have h5 := congrArg (fun l => List.flatMap pairC l) (List.take_append_drop i (L ++ [x]))
    simp only [List.flatMap_append] at h5
    have h6 : (List.flatMap pairC (List.take i (L ++ [x]))).length = i * 2 := by rw [flat_length pairC_length]; congr 1; simp; omega
    rw [List.flatMap_append, ← h5, List.getElem?_append_right (by rw [h6]; omega), h6, show i * 2 + j - i * 2 = j from by omega]
  case hfit => rw [hlen2]; omega
  case h1 =>
    intro u hu
    obtain ⟨y, _, hy⟩ := List.mem_flatMap.1 hu
    simp [pairC] at hy
    rcases hy with rfl | rfl <;> rfl
  intro w2 hw2 hgr2
  generalize (if cap = i + 1 then some (⟨g, o, none⟩ : Addr) else some ⟨g, o + (i + 1) * 2, none⟩) = A1
  generalize (if cap = i then some (⟨g, o, none⟩ : Addr) else some ⟨g, o + i * 2, none⟩) = A2
  have hs2 := SlF.copied (w := w1) (w' := w2) (L := L ++ [x]) pairC_length (by have := H1.out; rwa [HL.out]) i (i + 1) (L.length - i) (by simp; omega) (by simp; omega) cur hcur (by rw [hlen2] at hw2; exact hw2)
  have hx2 : w2.heap[w.heap.size]? = some (.cells #[.string x.1, .int .i64 x.2] 127 (0, 0)) := (hgr2.block w.heap.size (heap_lt hx1) (fun e => hgne (by cases e; rfl))).trans hx1
  have b0 : w2.cell? ⟨w.heap.size, 0, none⟩ = some (.string x.1) := by simp [World.cell?, hx2]
  have b1 : w2.cell? ⟨w.heap.size, 1, none⟩ = some (.int .i64 x.2) := by simp [World.cell?, hx2]
  have HE := Lib.hid (insert_eq L x i hi)
  generalize hL2 : ((L ++ [x]).take (i + 1) ++ ((L ++ [x]).drop i).take (L.length - i) ++ (L ++ [x]).drop (i + 1 + (L.length - i))) = L2 at hs2 HE
  have hL2l : L2.length = L.length + 1 := by rw [← hL2]; simp; omega
  obtain ⟨y, hy⟩ : ∃ y, L2[i]? = some y := ⟨_, List.getElem?_eq_getElem (by omega)⟩
  have hs2' : SlF w2 127 2 pairC (.slice (some ⟨g, o, none⟩) L2.length cap) L2 := by rw [hL2l]; rwa [HL.out] at hs2
  have d0 := hs2'.cell0 pairC_length i hy rfl
  have d1 := hs2'.cell pairC_length i 1 hy rfl
  have f0 := hs2'.free (o + i * 2)
  have f1 := hs2'.free (o + i * 2 + 1)
  have H2 := Lib.hid hs2'
  have HY := Lib.hid hy
  have HL2 := Lib.hid hL2l
  have HG2 := Lib.hid hgr2
  have hi6 : (i : Int) < (L.length : Int) + 1 := by omega
  have hi7 : i < L.length + 1 := by omega
  clear hs2 hs2' hy hL2 hL2l hgr2 hw2 hx2 hlen2 hmin
  go_wp2
  go_ret
  refine ⟨g, o, cap, rfl, ?_, ?_, hgnew⟩
  · have e1 := SlF.set pairC_length H2.out i 0 (by omega) y (x.1, y.2) (.string x.1) HY.out rfl
    have hyl : (L2.set i (x.1, y.2)).length = L2.length := by simp
    have e2 := SlF.set (L := L2.set i (x.1, y.2)) pairC_length (by rw [hyl]; exact e1) i 1 (by omega) (x.1, y.2) x (.int .i64 x.2) (by rw [List.getElem?_set_self (by rw [HL2.out]; omega)]) rfl
    rw [List.set_set, hyl, HE.out, HL2.out] at e2
    exact e2
  · have hF2 : Fr (fun b => v.ownBlock = some b) w w2 := hF1.drew.grown HG2.out fun k hk => by cases hk; exact hgnew
    exact ((hF2.setCell (p := ⟨g, o + i * 2, none⟩) hgnew _).setCell (p := ⟨g, o + i * 2 + 1, none⟩) hgnew _)
end Go.Proofs.Ythljnnjpmdgkoaa

namespace Go.Proofs.Ythljnnjpmdgkoaa
open Go Go.Proofs Go.RowKit
set_option maxRecDepth 100000

theorem insT_length (T : Pairs) (key : ByteArray) (n : Int) : (insT T key n).length ≤ T.length + 1 := by
  induction T with
  | nil => simp [insT]
  | cons p T ih =>
    unfold insT
    split
    · simp; omega
    · split <;> simp

theorem treeS_setN {w : World} {t nb no ncap pb po pcap k : Nat} {T : Pairs} {p : ByteArray × Int} {key : ByteArray} {m : Int} (h : TreeS w t (.slice (some ⟨nb, no, none⟩) 1 ncap) (.slice (some ⟨pb, po, none⟩) T.length pcap) T)
    (hp : T[k]? = some p) (hk : p.1 = key) : TreeS (w.setCell ⟨pb, po + k * 2 + 1, none⟩ (.int .i64 m)) t (.slice (some ⟨nb, no, none⟩) 1 ncap) (.slice (some ⟨pb, po, none⟩) T.length pcap) (T.set k (key, m)) := by
  subst hk
  have hlen : (T.set k (p.1, m)).length = T.length := by simp
  refine ⟨?_, ?_, ?_, h.d1, h.d2, h.d3⟩
  · rw [hlen]
    exact h.obj.other _ _ fun e => h.d2 (by rw [e]; rfl)
  · exact h.nodes.other _ _ fun e => h.d3 pb rfl (by simpa [Value.ownBlock] using e)
  · have := h.pairs.set pairC_length k 1 (by omega) p (p.1, m) (.int .i64 m) hp rfl
    exact this

theorem treeS_insert {w w1 : World} {t nb no ncap : Nat} {pv pv' : Value} {T L : Pairs} (h : TreeS w t (.slice (some ⟨nb, no, none⟩) 1 ncap) pv T) (hL : L.length = T.length + 1)
    (hs : SlF w1 127 2 pairC pv' L) (hf : Fr (fun b => pv.ownBlock = some b) w w1) (hown : ∀ b, pv'.ownBlock = some b → pv.ownBlock = some b ∨ w.heap.size ≤ b) :
    TreeS ((w1.setCell ⟨nb, no, none⟩ pv').setCell ⟨t, 3, none⟩ (.int .i64 ((T.length : Int) + 1))) t (.slice (some ⟨nb, no, none⟩) 1 ncap) pv' L := by
  have htl := h.obj.lt
  have hnl : nb < w.heap.size := h.nodes.lt nb rfl
  have hd1 : nb ≠ t := fun e => h.d1 (by rw [e]; rfl)
  have hp1 : ∀ b, pv'.ownBlock = some b → b ≠ t ∧ b ≠ nb := by
    intro b hb
    rcases hown b hb with e | e
    · exact ⟨fun x => h.d2 (by rw [e, x]), fun x => h.d3 b e (by rw [x]; rfl)⟩
    · omega
  have hn1 : SlF w1 198 2 nodeC (.slice (some ⟨nb, no, none⟩) 1 ncap) [(pv, .slice none 0 0)] := h.nodes.fr hf fun b hb hs => h.d3 b hs hb
  refine ⟨?_, ?_, ?_, h.d1, fun e => (hp1 t e).1 rfl, fun b hb e => (hp1 b hb).2 (by simpa [Value.ownBlock] using e.symm)⟩
  · have h1 := (h.obj.fr hf h.d2).other ⟨nb, no, none⟩ pv' (Ne.symm hd1)
    have h2 := h1.set 3 (.int .i64 ((T.length : Int) + 1))
    rw [hL]
    exact h2
  · have h1 := hn1.set nodeC_length 0 0 (by omega) (pv, .slice none 0 0) (pv', .slice none 0 0) pv' rfl rfl
    simp only [Nat.zero_mul, Nat.add_zero] at h1
    exact h1.other _ _ (by simpa [Value.ownBlock] using hd1)
  · exact (hs.other _ _ fun e => (hp1 nb e).2 rfl).other _ _ fun e => (hp1 t e).1 rfl

set_option maxHeartbeats 1000000 in
theorem Set1_calls (w : World) (t : Nat) (T : Pairs) (F : Nat → Prop) (key : ByteArray) (m : Int) (h : TreeAt1 w t T F) (hlt : T.length < 9) :
    Calls Try.prog 123 #[.pointer (some ⟨t, 0, none⟩), .string key, .int .i64 m] w fun e w' => (∃ v, e = .returned v) ∧ ∃ F', TreeAt1 w' t (insT T key m) F' ∧ Fr F w w' ∧ (∀ b, F' b → F b ∨ w.heap.size ≤ b) := by
  obtain ⟨nv, pv, h, hs, hl, hF⟩ := h
  have hspot := fun W h1 h2 h3 => spot_calls W t 0 nv pv (.slice none 0 0) [(pv, .slice none 0 0)] T key h1 h2 rfl (by simp) h3 (by omega)
  have c0 := h.obj.cell 0 rfl
  have c2 := h.obj.cell 2 rfl
  have c3 := h.obj.cell 3 rfl
  have hN := h.nodes
  have hP := h.pairs
  have hins := insT_eq T hs key m
  obtain ⟨hso, _⟩ := insT_sorted T hs key m
  have hilen := insT_length T key m
  obtain ⟨na, ncap, rfl, hc1, hc2, hna⟩ := hN.shape
  obtain ⟨nb, no, rfl⟩ := hna (by simp)
  obtain ⟨pa, pcap, rfl, hc3, hc4, hpa⟩ := hP.shape
  have n0 := hN.cell0 nodeC_length 0 rfl rfl
  have n1 := hN.cell nodeC_length 0 1 rfl rfl
  have nf := hN.free no
  simp only [Nat.zero_mul, Nat.add_zero] at n0 n1
  have hspot' := hspot w.drew c0 hN hP
  unfold spotTuple at hspot'
  have h9 : ((T.length : Int) == 9) = false := by simp; omega
  have H := Lib.hid h
  have HI := Lib.hid hins
  have HS := Lib.hid hso
  have HFF := Lib.hid hF
  clear h hspot hN hs hF hna hins hso
  by_cases hh : hitOf T key = true
  · obtain ⟨p, hp⟩ : ∃ p, T[spotOf T key]? = some p := by
      unfold hitOf at hh
      split at hh
      · exact ⟨_, by assumption⟩
      · cases hh
    have hil := (List.getElem?_eq_some_iff.1 hp).1
    obtain ⟨pb, po, rfl⟩ := hpa (by omega)
    have hc := hP.cell pairC_length _ 1 hp rfl
    have hfr := hP.free (po + spotOf T key * 2 + 1)
    have hpbl : pb < w.heap.size := hP.lt pb rfl
    have hilz : (spotOf T key : Int) < (T.length : Int) := by omega
    have HR : Hid (insT T key m = T.set (spotOf T key) (key, m)) := Lib.hid (by rw [HI.out, if_pos hh])
    have hkey : p.1 = key := by
      unfold hitOf at hh
      rw [hp] at hh
      exact keq_iff.1 hh
    have HK := Lib.hid hkey
    have HP := Lib.hid hP
    have HPp := Lib.hid hp
    have HH := Lib.hid hh
    clear hh hP hp hpa hkey
    go_enter Try.func123, Try.ntmps123
    go_wp2_with fail
    go_quiet (fail)
    have hq := Fr.drewN No w nq
    generalize w.drewN nq = W at hq ⊢
    replace hfr := hq.free0 hc hfr
    replace c0 := hq.cell0 c0
    replace c2 := hq.cell0 c2
    replace n0 := hq.cell0 n0
    replace hc := hq.cell0 hc
    have hsp := spot_calls W t 0 _ _ _ [(.slice (some ⟨pb, po, none⟩) T.length pcap, .slice none 0 0)] T key c0 (H.out.nodes.fr0 hq) rfl (by simp) (HP.out.fr0 hq) (by omega)
    unfold spotTuple at hsp
    rw [HH.out] at hsp
    generalize spotOf T key = k at *
    clear hspot' n1 c3 nf hpbl
    go_wp2_with fail
    go_loopg [9] 1 (fun g s9 wr => s9 = .int .i64 0 ∧ W = wr)
    case atStart => exact ⟨rfl, rfl⟩
    case round =>
      obtain ⟨rfl, rfl⟩ := hrel
      go_wp2_with (go_at_call 130; refine hsp.mono ?_; clear hsp; rintro e w' ⟨rfl, rfl⟩)
      go_ret2
      have hW : TreeS W t (.slice (some ⟨nb, no, none⟩) 1 ncap) (.slice (some ⟨pb, po, none⟩) T.length pcap) T :=
        ⟨H.out.obj.fr hq id, H.out.nodes.fr0 hq, H.out.pairs.fr0 hq, H.out.d1, H.out.d2, H.out.d3⟩
      refine ⟨⟨_, rfl⟩, F, ⟨.slice (some ⟨nb, no, none⟩) 1 ncap, .slice (some ⟨pb, po, none⟩) T.length pcap, ?_, HS.out, by omega, HFF.out⟩, ?_, fun b hb => .inl hb⟩
      · rw [HR.out]
        exact treeS_setN hW HPp.out HK.out
      · exact (hq.mono fun _ _ s => s.elim).setCell (.inl ((HFF.out pb).2 (.inr (.inr rfl)))) _
  · simp only [Bool.not_eq_true] at hh
    have HR : Hid (insT T key m = T.take (spotOf T key) ++ (key, m) :: T.drop (spotOf T key)) := Lib.hid (by rw [HI.out, hh]; simp)
    have hput := fun W hv => putPair_calls W (.slice pa T.length pcap) T (spotOf T key) (key, m) hv (spotOf_le T key) (by omega)
    have HP := Lib.hid hP
    have HH := Lib.hid hh
    clear hh hP hpa
    go_enter Try.func123, Try.ntmps123
    go_wp2_with fail
    go_quiet (fail)
    have hq := Fr.drewN No w nq
    generalize w.drewN nq = W at hq ⊢
    have d3 := hq.free0 c3 (H.out.obj.free 3)
    replace nf := hq.free0 n0 nf
    replace c0 := hq.cell0 c0
    replace c2 := hq.cell0 c2
    replace c3 := hq.cell0 c3
    replace n0 := hq.cell0 n0
    replace n1 := hq.cell0 n1
    have hsp := spot_calls W t 0 _ _ _ [(.slice pa T.length pcap, .slice none 0 0)] T key c0 (H.out.nodes.fr0 hq) rfl (by simp) (HP.out.fr0 hq) (by omega)
    unfold spotTuple at hsp
    rw [HH.out] at hsp
    have hW : TreeS W t (.slice (some ⟨nb, no, none⟩) 1 ncap) (.slice pa T.length pcap) T :=
      ⟨H.out.obj.fr hq id, H.out.nodes.fr0 hq, H.out.pairs.fr0 hq, H.out.d1, H.out.d2, H.out.d3⟩
    have hputW := hput W hW.pairs
    have HW := Lib.hid hW
    have hln : (insT T key m).length = T.length + 1 := by
      have := spotOf_le T key
      rw [HR.out]; simp; omega
    have HLN := Lib.hid hln
    have htn : t ≠ nb := fun e => hW.d1 (by rw [e]; rfl)
    have hpt : ¬ (Value.slice pa T.length pcap).ownBlock = some t := hW.d2
    have hpn : ¬ (Value.slice pa T.length pcap).ownBlock = some nb := fun e => hW.d3 nb e rfl
    generalize spotOf T key = k at *
    clear hspot' hput hln hW
    go_wp2_with fail
    go_loopg [9] 1 (fun g s9 wr => s9 = .int .i64 0 ∧ W = wr)
    case atStart => exact ⟨rfl, rfl⟩
    case round =>
      obtain ⟨rfl, rfl⟩ := hrel
      go_wp2_with (first
        | (go_at_call 130; refine hsp.mono ?_; clear hsp; rintro e w' ⟨rfl, rfl⟩)
        | (go_at_call 144; refine hputW.mono ?_; clear hputW; rintro e w1 ⟨g, o, cap, rfl, hs1, hf1, hg1⟩; have e0 := hf1.cell n0 hpn; have ef := hf1.free n0 nf hpn; have e3 := hf1.cell c3 hpt; have ef3 := hf1.free c3 d3 hpt; have HS1 := Lib.hid hs1; clear hs1))
      go_ret2
      have hs1' := HS1.out
      rw [← HR.out] at hs1'
      have hown : ∀ b, (Value.slice (some ⟨g, o, none⟩) (T.length + 1) cap).ownBlock = some b → (Value.slice pa T.length pcap).ownBlock = some b ∨ W.heap.size ≤ b := by
        intro b hb
        obtain rfl : g = b := by simpa [Value.ownBlock] using hb
        exact hg1
      refine ⟨⟨_, rfl⟩, _, ⟨.slice (some ⟨nb, no, none⟩) 1 ncap, .slice (some ⟨g, o, none⟩) (T.length + 1) cap, treeS_insert HW.out HLN.out hs1' hf1 hown, HS.out, by rw [HLN.out]; omega, fun b => Iff.rfl⟩, ?_, ?_⟩
      · refine ((((hq.mono fun _ _ s => s.elim).trans hf1 ?_).setCell (p := ⟨nb, no, none⟩) ?_ _).setCell (p := ⟨t, 3, none⟩) ?_ _)
        · intro j _ hj; exact (HFF.out j).2 (.inr (.inr hj))
        · exact .inl ((HFF.out nb).2 (.inr (.inl rfl)))
        · exact .inl ((HFF.out t).2 (.inl rfl))
      · rintro b (rfl | e | e)
        · exact .inl ((HFF.out _).2 (.inl rfl))
        · exact .inl ((HFF.out _).2 (.inr (.inl e)))
        · rcases hown b e with e | e
          · exact .inl ((HFF.out _).2 (.inr (.inr e)))
          · exact .inr (Nat.le_trans hq.size e)
end Go.Proofs.Ythljnnjpmdgkoaa

namespace Go.Proofs.Ythljnnjpmdgkoaa
open Go Go.Proofs Go.RowKit Go.Shelf
set_option maxRecDepth 100000

theorem Range1_nil (w : World) (t : Nat) (frm to : ByteArray) :
    Calls Try.prog 69 #[.pointer (some ⟨t, 0, none⟩), .string frm, .string to, .int .i64 0] w fun e w' => e = .returned (.slice none 0 0) ∧ Fr No w w' := by
  go_enter Try.func69, Try.ntmps69
  go_wp2
  go_ret
  exact ⟨rfl, (((Fr.refl No w).alloc _).alloc _).alloc _⟩

abbrev TreeRel := World → Nat → Pairs → (Nat → Prop) → Prop
/-- What the store needs of a tree. -/
structure TreeOk (TA : TreeRel) (N : Nat) : Prop where
  lt : ∀ {w t T F}, TA w t T F → ∀ b, F b → b < w.heap.size
  fr : ∀ {w w' t T F S}, TA w t T F → Fr S w w' → (∀ b, F b → ¬ S b) → TA w' t T F
  root : ∀ {w t T F}, TA w t T F → F t
  sorted : ∀ {w t T F}, TA w t T F → Sorted T
  new : ∀ w : World, Calls Try.prog 67 #[] w fun e w' => ∃ t, e = .returned (.pointer (some ⟨t, 0, none⟩)) ∧ ∃ F, TA w' t [] F ∧ Fr No w w' ∧ (∀ b, F b → w.heap.size ≤ b)
  len : ∀ {w t T F}, TA w t T F → Calls Try.prog 70 #[.pointer (some ⟨t, 0, none⟩)] w fun e w' => e = .returned (.int .i64 T.length) ∧ w = w'
  get : ∀ {w t T F} (key : ByteArray), TA w t T F → Calls Try.prog 112 #[.pointer (some ⟨t, 0, none⟩), .string key] w fun e w' => e = .returned (getTuple (getT T key)) ∧ Fr No w w'
  set : ∀ {w t T F} (key : ByteArray) (m : Int), TA w t T F → T.length < N →
    Calls Try.prog 123 #[.pointer (some ⟨t, 0, none⟩), .string key, .int .i64 m] w fun e w' => (∃ v, e = .returned v) ∧ ∃ F', TA w' t (insT T key m) F' ∧ Fr F w w' ∧ (∀ b, F' b → F b ∨ w.heap.size ≤ b)
  range : ∀ {w t T F} (frm to : ByteArray), TA w t T F →
    Calls Try.prog 69 #[.pointer (some ⟨t, 0, none⟩), .string frm, .string to, .int .i64 T.length] w fun e w' => ∃ v, e = .returned v ∧ SlF w' 127 2 pairC v (rangeT T frm to) ∧ Fr No w w' ∧ (∀ b, v.ownBlock = some b → w.heap.size ≤ b)

theorem treeOk1 : TreeOk TreeAt1 9 where
  lt h := h.lt
  fr h := h.fr
  root h := by obtain ⟨_, _, _, _, _, hF⟩ := h; exact (hF _).2 (.inl rfl)
  sorted h := by obtain ⟨_, _, _, hs, _⟩ := h; exact hs
  new := IndexNew_calls
  len h := Len1_calls _ _ _ _ h
  get key h := Get1_calls _ _ _ _ key h
  set key m h hl := Set1_calls _ _ _ _ key m h hl
  range {w t T F} frm to h := by
    obtain ⟨nv, pv, h, hs, hl, _⟩ := h
    rcases Nat.eq_zero_or_pos T.length with h0 | hp
    · obtain rfl := List.eq_nil_of_length_eq_zero h0
      refine (Range1_nil w t frm to).mono ?_
      rintro e w' ⟨rfl, hf⟩
      exact ⟨_, rfl, SlF.nil _ _ _ _, hf, by simp [Value.ownBlock]⟩
    · refine (callsIn_wide.1 (Range1_in 6 (by omega) w t nv pv T frm to h hs hl hp)).mono ?_
      rintro e w' ⟨v, rfl, h1, h2, h3⟩
      exact ⟨v, rfl, h1, Fr.of_below h2, h3⟩
end Go.Proofs.Ythljnnjpmdgkoaa

namespace Go.Proofs.Ythljnnjpmdgkoaa
open Go Go.RowKit Go.WideElems Go.ChangeMaps

/-- The block b is a map from ints that has f. -/
def MapAt (w : World) (b : Nat) (f : Int → Option Value) : Prop :=
  ∃ es clock, w.heap[b]? = some (.map es clock) ∧ MapKept.Stamped es clock ∧ (∀ e ∈ es.toList, ∃ n, e.key = .int .i64 n ∧ (Lit.int .i64 n).wf = true ∧ f n = some e.val) ∧
    ∀ n v, f n = some v → ∃ e ∈ es.toList, e.key = .int .i64 n ∧ e.val = v

theorem Fr.setAt {b : Nat} {a w : World} (h : Fr (fun x => x = b) a w) (i : Nat) (u : Value) : Fr (fun x => x = b) a (w.setCell ⟨b, i, none⟩ u) := h.setCell (p := ⟨b, i, none⟩) (.inl rfl) u
theorem MapAt.lt {w : World} {b : Nat} {f : Int → Option Value} (h : MapAt w b f) : b < w.heap.size := by
  obtain ⟨es, clock, hb, _⟩ := h
  exact heap_lt hb
theorem MapAt.keep {w w' : World} {b : Nat} {f : Int → Option Value} (h : MapAt w b f) (hk : w'.heap[b]? = w.heap[b]?) : MapAt w' b f := by
  obtain ⟨es, clock, hb, h⟩ := h
  exact ⟨es, clock, hk.trans hb, h⟩
theorem MapAt.fr {w w' : World} {b : Nat} {f : Int → Option Value} {S : Nat → Prop} (h : MapAt w b f) (hf : Fr S w w') (hn : ¬ S b) : MapAt w' b f := h.keep (hf.block b h.lt hn)
theorem MapAt.alloc {w : World} {b : Nat} {f : Int → Option Value} (h : MapAt w b f) (o : Obj) : MapAt (w.alloc o) b f := h.keep (Below.heap_alloc w o b h.lt)
theorem MapAt.made (w : World) : MapAt (w.alloc (.map #[] 0)) w.heap.size fun _ => none :=
  ⟨#[], 0, heap_alloc_new w _, MapKept.stamped_empty 0, by simp, by simp⟩
theorem MapAt.apart {w : World} {b : Nat} {f : Int → Option Value} (h : MapAt w b f) {cs : List Value} {c : Nat} (hc : Has w c cs) : b ≠ c := by
  rintro rfl
  obtain ⟨es, clock, hb, _⟩ := h
  obtain ⟨e, hc⟩ := hc
  rw [hb] at hc; cases hc

section
variable {P : Program} {w : World} {b : Nat} {f : Int → Option Value} {t k e : TypeId}

theorem keys_of (hk : P.underlying k = some (.int .i64)) {es : List MapEntry} (h : ∀ e ∈ es, ∃ n, e.key = .int .i64 n ∧ (Lit.int .i64 n).wf = true ∧ f n = some e.val) : ∀ e ∈ es, ∃ l, keyOf P k e.key = some l := by
  intro e he
  obtain ⟨n, h1, h2, _⟩ := h e he
  exact ⟨_, by rw [h1]; exact Maps.keyOf_int_mk hk h2⟩

theorem MapAt.look (h : MapAt w b f) (ht : P.underlying t = some (.map k e)) (hk : P.underlying k = some (.int .i64)) {n : Int} (hn : (Lit.int .i64 n).wf = true) {z : Value} (hz : (zeroValue e).run P w = .ok z w) :
    (Instr.lookup t (.map (some b)) (.int .i64 n) false).run P w = .ok ((f n).getD z) w := by
  obtain ⟨es, clock, hb, hst, h1, h2⟩ := h
  have K := Maps.int_keyed hk
  have hkey := Maps.keyOf_int_mk hk hn
  rcases K.find w hkey es.toList (keys_of hk h1) with ⟨g1, g2⟩ | ⟨j, e0, g1, g2, g3⟩
  · have : f n = none := by
      cases hf : f n with
      | none => rfl
      | some v =>
        obtain ⟨e1, he1, hek, _⟩ := h2 n v hf
        exact absurd hek (g2 e1 he1)
    simp [Instr.lookup, run_underlying ht, MapKept.run_getObj_map hb, K.check w _ hkey, g1, hz, Result.andThen, this]
  · obtain ⟨m, hm, _, hfm⟩ := h1 e0 (List.mem_of_getElem? g2)
    rw [g3] at hm; cases hm
    simp [Instr.lookup, run_underlying ht, MapKept.run_getObj_map hb, K.check w _ hkey, g1, Result.andThen, hfm]

theorem MapAt.store (h : MapAt w b f) (ht : P.underlying t = some (.map k e)) (hk : P.underlying k = some (.int .i64)) {n : Int} (hn : (Lit.int .i64 n).wf = true) (v : Value) :
    ∃ w', (Instr.mapUpdate t (.map (some b)) (.int .i64 n) v).run P w = .ok () w' ∧ MapAt w' b (fun m => if m = n then some v else f m) ∧ Fr (fun x => x = b) w w' ∧ w'.heap.size = w.heap.size := by
  obtain ⟨es, clock, hb, hst, h1, h2⟩ := h
  have K := Maps.int_keyed hk
  have hkey := Maps.keyOf_int_mk hk hn
  have hfr : ∀ o, Fr (fun x => x = b) w (setBlock w b o) := fun o => ⟨rfl, rfl, rfl, by simp [setBlock], fun i _ hi => heap_setBlock_other hb _ hi⟩
  rcases K.find w hkey es.toList (keys_of hk h1) with ⟨g1, g2⟩ | ⟨j, e0, g1, g2, g3⟩
  · refine ⟨setBlock w b (.map (es.push ⟨.int .i64 n, v, clock⟩) (clock + 1)), ?_, ⟨_, _, heap_setBlock_same hb _, MapKept.stamped_push hst g2, ?_, ?_⟩, hfr _, by simp [setBlock]⟩
    · simp [Instr.mapUpdate, run_underlying ht, MapKept.run_getObj_map hb, K.check w false hkey, g1, MapKept.run_setObj_map _ hb, Result.andThen, setBlock]
    · intro x hx
      simp only [Array.toList_push, List.mem_append, List.mem_singleton] at hx
      rcases hx with hx | rfl
      · obtain ⟨m, e1, e2, e3⟩ := h1 x hx
        refine ⟨m, e1, e2, ?_⟩
        dsimp only
        rw [if_neg (fun e => g2 x hx (by rw [e1, e]))]; exact e3
      · exact ⟨n, rfl, hn, by simp⟩
    · intro m u hu
      simp only [Array.toList_push, List.mem_append, List.mem_singleton]
      by_cases hmn : m = n
      · subst hmn
        simp at hu; subst hu
        exact ⟨_, .inr rfl, rfl, rfl⟩
      · dsimp only at hu
        rw [if_neg hmn] at hu
        obtain ⟨x, hx, hx'⟩ := h2 m u hu
        exact ⟨x, .inl hx, hx'⟩
  · have hj : es[j]? = some e0 := by simpa using g2
    have hjl : j < es.size := (Array.getElem?_eq_some_iff.1 hj).1
    have hkeyf : ∀ e', es[j]? = some e' → ({ e' with key := .int .i64 n, val := v } : MapEntry).key = e'.key := fun e' he' => by rw [hj] at he'; cases he'; exact g3.symm
    have hnd : es.toList.Pairwise (fun x y => x.key ≠ y.key) := ((MapKept.stamped_iff _ _).1 hst).2.2
    have hother : ∀ i x, es[i]? = some x → i ≠ j → x.key ≠ .int .i64 n := by
      intro i x hx hij e1
      have hil := (Array.getElem?_eq_some_iff.1 hx).1
      rw [List.pairwise_iff_getElem] at hnd
      have ex : es[i] = x := (Array.getElem?_eq_some_iff.1 hx).2
      have e0' : es[j] = e0 := (Array.getElem?_eq_some_iff.1 hj).2
      rcases Nat.lt_or_gt_of_ne hij with h | h
      · exact hnd i j (by simpa using hil) (by simpa using hjl) h (by simp [ex, e0', e1, g3])
      · exact hnd j i (by simpa using hjl) (by simpa using hil) h (by simp [ex, e0', e1, g3])
    refine ⟨setBlock w b (.map (es.modify j (fun e' => { e' with key := .int .i64 n, val := v })) clock), ?_,
      ⟨_, _, heap_setBlock_same hb _, MapKept.stamped_modify hst _ _ (fun _ _ => rfl) (fun e' _ he' => hkeyf e' he'), ?_, ?_⟩, hfr _, by simp [setBlock]⟩
    · simp [Instr.mapUpdate, run_underlying ht, MapKept.run_getObj_map hb, K.check w false hkey, g1, hj, g3, K.stays w hkey, MapKept.run_setObj_map _ hb, Result.andThen, setBlock]
    · intro x hx
      obtain ⟨i, hi⟩ := List.getElem?_of_mem hx
      have hi' : (es.modify j (fun e' => { e' with key := .int .i64 n, val := v }))[i]? = some x := by rw [Array.getElem?_toList] at hi; exact hi
      rw [Array.getElem?_modify] at hi'
      by_cases hji : j = i
      · rw [if_pos hji] at hi'
        obtain ⟨y, hy, rfl⟩ := Option.map_eq_some_iff.1 hi'
        exact ⟨n, rfl, hn, by simp⟩
      · rw [if_neg hji] at hi'
        obtain ⟨m, e1, e2, e3⟩ := h1 x (List.mem_of_getElem? (by simpa using hi'))
        refine ⟨m, e1, e2, ?_⟩
        dsimp only
        rw [if_neg (fun e => hother i x hi' (fun e' => hji e'.symm) (by rw [e1, e]))]; exact e3
    · intro m u hu
      by_cases hmn : m = n
      · subst hmn
        simp at hu; subst hu
        refine ⟨{ e0 with key := .int .i64 m, val := v }, ?_, rfl, rfl⟩
        refine List.mem_of_getElem? (i := j) ?_
        have : (es.modify j (fun e' => { e' with key := .int .i64 m, val := v }))[j]? = some { e0 with key := .int .i64 m, val := v } := by rw [Array.getElem?_modify, if_pos rfl, hj]; rfl
        rw [Array.getElem?_toList]; exact this
      · dsimp only at hu
        rw [if_neg hmn] at hu
        obtain ⟨x, hx, hx1, hx2⟩ := h2 m u hu
        obtain ⟨i, hi⟩ := List.getElem?_of_mem hx
        have hi' : es[i]? = some x := by simpa using hi
        have hij : j ≠ i := by
          rintro rfl
          rw [hj] at hi'; cases hi'
          rw [g3] at hx1; cases hx1; exact hmn rfl
        refine ⟨x, List.mem_of_getElem? (i := i) ?_, hx1, hx2⟩
        have : (es.modify j (fun e' => { e' with key := .int .i64 n, val := v }))[i]? = some x := by rw [Array.getElem?_modify, if_neg hij]; exact hi'
        rw [Array.getElem?_toList]; exact this

theorem MapAt.drop (h : MapAt w b f) (ht : P.underlying t = some (.map k e)) (hk : P.underlying k = some (.int .i64)) {n : Int} (hn : (Lit.int .i64 n).wf = true) (ty : TypeId) :
    ∃ w', (Builtin.delete_ #[t, k] ty #[.map (some b), .int .i64 n]).run P w = .ok (.tuple #[]) w' ∧ MapAt w' b (fun m => if m = n then none else f m) ∧ Fr (fun x => x = b) w w' ∧ w'.heap.size = w.heap.size := by
  obtain ⟨es, clock, hb, hst, h1, h2⟩ := h
  have K := Maps.int_keyed hk
  have hkey := Maps.keyOf_int_mk hk hn
  have hfr : ∀ o, Fr (fun x => x = b) w (setBlock w b o) := fun o => ⟨rfl, rfl, rfl, by simp [setBlock], fun i _ hi => heap_setBlock_other hb _ hi⟩
  rcases K.find w hkey es.toList (keys_of hk h1) with ⟨g1, g2⟩ | ⟨j, e0, g1, g2, g3⟩
  · refine ⟨setBlock w b (.map es clock), ?_, ⟨_, _, heap_setBlock_same hb _, hst, ?_, ?_⟩, hfr _, by simp [setBlock]⟩
    · simp [Builtin.delete_, run_underlying ht, MapKept.run_getObj_map hb, K.check w _ hkey, g1, MapKept.run_setObj_map _ hb, Result.andThen, setBlock]
    · intro x hx
      obtain ⟨m, e1, e2, e3⟩ := h1 x hx
      refine ⟨m, e1, e2, ?_⟩
      dsimp only
      rw [if_neg (fun e => g2 x hx (by rw [e1, e]))]; exact e3
    · intro m u hu
      dsimp only at hu
      split at hu
      · cases hu
      · exact h2 m u hu
  · have hj : es[j]? = some e0 := by simpa using g2
    have hjl : j < es.size := (Array.getElem?_eq_some_iff.1 hj).1
    have hsub : (es.eraseIdxIfInBounds j).toList = es.toList.eraseIdx j := by
      unfold Array.eraseIdxIfInBounds
      rw [dif_pos hjl]
      simp
    have hnd : es.toList.Pairwise (fun x y => x.key ≠ y.key) := ((MapKept.stamped_iff _ _).1 hst).2.2
    refine ⟨setBlock w b (.map (es.eraseIdxIfInBounds j) clock), ?_, ⟨_, _, heap_setBlock_same hb _, MapKept.stamped_erase hst j, ?_, ?_⟩, hfr _, by simp [setBlock]⟩
    · simp [Builtin.delete_, run_underlying ht, MapKept.run_getObj_map hb, K.check w _ hkey, g1, MapKept.run_setObj_map _ hb, Result.andThen, setBlock]
    · intro x hx
      rw [hsub] at hx
      obtain ⟨m, e1, e2, e3⟩ := h1 x ((List.eraseIdx_sublist _ _).subset hx)
      refine ⟨m, e1, e2, ?_⟩
      dsimp only
      rw [if_neg ?_]; exact e3
      rintro rfl
      obtain ⟨i, hi⟩ := List.mem_iff_getElem?.1 hx
      rw [List.pairwise_iff_getElem] at hnd
      rw [List.getElem?_eraseIdx] at hi
      have e0' : es[j] = e0 := (Array.getElem?_eq_some_iff.1 hj).2
      split at hi
      · rename_i hlt
        obtain ⟨hil, hx'⟩ := List.getElem?_eq_some_iff.1 hi
        exact hnd i j hil (by simpa using hjl) hlt (by rw [hx', e1]; simp [e0', g3])
      · rename_i hge
        obtain ⟨hil, hx'⟩ := List.getElem?_eq_some_iff.1 hi
        exact hnd j (i + 1) (by simpa using hjl) hil (by omega) (by rw [hx', e1]; simp [e0', g3])
    · intro m u hu
      dsimp only at hu
      split at hu
      · cases hu
      · rename_i hmn
        obtain ⟨x, hx, hx1, hx2⟩ := h2 m u hu
        refine ⟨x, ?_, hx1, hx2⟩
        rw [hsub]
        obtain ⟨i, hi⟩ := List.mem_iff_getElem?.1 hx
        refine List.mem_iff_getElem?.2 ?_
        have hij : i ≠ j := by
          rintro rfl
          have : es.toList[i]? = some e0 := g2
          rw [hi] at this; cases this
          rw [g3] at hx1; cases hx1; exact hmn rfl
        by_cases hlt : i < j
        · exact ⟨i, by rw [List.getElem?_eraseIdx, if_pos hlt]; exact hi⟩
        · exact ⟨i - 1, by rw [List.getElem?_eraseIdx, if_neg (by omega), show i - 1 + 1 = i from by omega]; exact hi⟩
/-- The world behind a store into a map. -/
def mapUpW (P : Program) (t : TypeId) (b : Nat) (n : Int) (v : Value) (w : World) : World := match (Instr.mapUpdate t (.map (some b)) (.int .i64 n) v).run P w with
  | .ok _ w' => w'
  | .halt _ w' => w'
theorem MapAt.up (h : MapAt w b f) (ht : P.underlying t = some (.map k e)) (hk : P.underlying k = some (.int .i64)) {n : Int} (hn : (Lit.int .i64 n).wf = true) (v : Value) :
    (Instr.mapUpdate t (.map (some b)) (.int .i64 n) v).run P w = .ok () (mapUpW P t b n v w) ∧ MapAt (mapUpW P t b n v w) b (fun m => if m = n then some v else f m) ∧ Fr (fun x => x = b) w (mapUpW P t b n v w) ∧ (mapUpW P t b n v w).heap.size = w.heap.size := by
  obtain ⟨w', hrun, h1, h2, h3⟩ := h.store ht hk hn v
  have e1 : mapUpW P t b n v w = w' := by unfold mapUpW; rw [hrun]
  rw [e1]
  exact ⟨hrun, h1, h2, h3⟩
end

/-- A look-up in the walk. -/
theorem wpList_look {P : Program} {w : World} {ops : Array Oper} {rest : List Oper} {o : Oper} {a : Act} {Q : Exit → Act → World → Prop} (hg : o.guard = none) (m x : Operand) (t : TypeId) (hop : o.op = Op.lookup t m x false)
    (k e : TypeId) (ht : P.underlying t = some (.map k e)) (hk : P.underlying k = some (.int .i64)) (b : Nat) (f : Int → Option Value) (hm : a.eval m = .map (some b)) (h : MapAt w b f) (n : Int) (hx : a.eval x = .int .i64 n)
    (hn : (Lit.int .i64 n).wf = true) (z : Value) (hz : (zeroValue e).run P w = .ok z w) (v : Value) (hv : (f n).getD z = v) (hK : wpList P ops Q rest (a.put o.dst v) w) : wpList P ops Q (o :: rest) a w := by
  refine wpList_plain hg fun K' hK' => ?_
  have hrun := h.look ht hk hn hz
  rw [hv] at hrun
  unfold Oper.wp
  simp [execOp, hop, hm, hx, hrun, Result.andThen]
  exact hK' _ _ hK
/-- A store into a map in the walk. -/
theorem wpList_store {P : Program} {w : World} {ops : Array Oper} {rest : List Oper} {o : Oper} {a : Act} {Q : Exit → Act → World → Prop} (hg : o.guard = none) (m x v : Operand) (t : TypeId) (hop : o.op = Op.mapUpdate t m x v)
    (k e : TypeId) (ht : P.underlying t = some (.map k e)) (hk : P.underlying k = some (.int .i64)) (b : Nat) (f : Int → Option Value) (hm : a.eval m = .map (some b)) (h : MapAt w b f) (n : Int) (hx : a.eval x = .int .i64 n)
    (hn : (Lit.int .i64 n).wf = true) (u : Value) (hv : a.eval v = u)
    (hK : ∀ w', MapAt w' b (fun m => if m = n then some u else f m) → Fr (fun x => x = b) w w' → w'.heap.size = w.heap.size → wpList P ops Q rest (a.put o.dst undef) w') : wpList P ops Q (o :: rest) a w := by
  refine wpList_plain hg fun K' hK' => ?_
  obtain ⟨w', hrun, r1, r2, r3⟩ := h.store ht hk hn u
  unfold Oper.wp
  simp [execOp, hop, hm, hx, hv, hrun, Result.andThen]
  exact hK' _ _ (hK w' r1 r2 r3)
/-- A delete in the walk. -/
theorem wpList_drop {P : Program} {w : World} {ops : Array Oper} {rest : List Oper} {o : Oper} {a : Act} {Q : Exit → Act → World → Prop} (hg : o.guard = none) (m x : Operand) (t k : TypeId) (hop : o.op = Op.call { callee := Callee.builtin Builtin.delete, args := #[m, x], argTypes := #[t, k] })
    (e : TypeId) (ht : P.underlying t = some (.map k e)) (hk : P.underlying k = some (.int .i64)) (b : Nat) (f : Int → Option Value) (hm : a.eval m = .map (some b)) (h : MapAt w b f) (n : Int) (hx : a.eval x = .int .i64 n)
    (hn : (Lit.int .i64 n).wf = true)
    (hK : ∀ w', MapAt w' b (fun m => if m = n then none else f m) → Fr (fun x => x = b) w w' → w'.heap.size = w.heap.size → wpList P ops Q rest (a.put o.dst (.tuple #[])) w') : wpList P ops Q (o :: rest) a w := by
  refine wpList_plain hg fun K' hK' => ?_
  obtain ⟨w', hrun, r1, r2, r3⟩ := h.drop ht hk hn o.type
  unfold Oper.wp
  simp [execOp, hop, resolve, invoke, builtin, hm, hx, hrun, Result.andThen]
  exact hK' _ _ (hK w' r1 r2 r3)
end Go.Proofs.Ythljnnjpmdgkoaa
