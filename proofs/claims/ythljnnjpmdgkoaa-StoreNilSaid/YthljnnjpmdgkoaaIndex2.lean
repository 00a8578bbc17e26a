/- The package index: put of a pair into a list, Set at a tree of one node. The condition: at most nine keys. -/
import Derived.Test.YthljnnjpmdgkoaaIndex
import Derived.Test.YthljnnjpmdgkoaaLib2
import Derived.StillTailTactics
namespace Go.Proofs.Ythljnnjpmdgkoaa
open Go Go.Proofs Go.RowKit
set_option maxRecDepth 100000

theorem info127 : (Try.prog.info? 127).map (fun i => (i.zero, i.size, i.bytes)) = some (some (.agg #[.string ByteArray.empty, .int .i64 0]), 2, 24) := by kernel_rfl

theorem insert_eq {α : Type} (L : List α) (x : α) (i : Nat) (hi : i ≤ L.length) :
    (((L ++ [x]).take (i + 1) ++ ((L ++ [x]).drop i).take (L.length - i) ++ (L ++ [x]).drop (i + 1 + (L.length - i))).set i x) = L.take i ++ x :: L.drop i := by
  have h1 : (L ++ [x]).drop (i + 1 + (L.length - i)) = [] := List.drop_eq_nil_of_le (by simp; omega)
  have h2 : ((L ++ [x]).drop i).take (L.length - i) = L.drop i := by
    rw [List.drop_append_of_le_length hi, List.take_append_of_le_length (by simp), List.take_of_length_le (by simp)]
  rw [h1, h2, List.append_nil]
  by_cases h : i < L.length
  · have h3 : (L ++ [x]).take (i + 1) = L.take i ++ [L[i]] := by
      rw [List.take_append_of_le_length (by omega), List.take_succ_eq_append_getElem h]
    rw [h3, List.append_assoc, List.set_append_right _ _ (by simp; omega)]
    simp [show i - min i L.length = 0 from by omega]
  · obtain rfl : i = L.length := by omega
    rw [List.take_of_length_le (by simp)]
    simp

set_option maxHeartbeats 1000000 in
theorem putPair_calls (w : World) (v : Value) (L : Pairs) (i : Nat) (x : ByteArray × Int) (hv : SlF w 127 2 pairC v L) (hi : i ≤ L.length) (hl : L.length ≤ 1099511627) :
    Calls Try.prog 144 #[v, .int .i64 i, .agg #[.string x.1, .int .i64 x.2]] w fun e w' => ∃ g o cap, e = .returned (.slice (some ⟨g, o, none⟩) (L.length + 1) cap) ∧
      SlF w' 127 2 pairC (.slice (some ⟨g, o, none⟩) (L.length + 1) cap) (L.take i ++ x :: L.drop i) ∧ Fr (fun b => v.ownBlock = some b) w w' ∧ (v.ownBlock = some g ∨ w.heap.size ≤ g) := by
  obtain ⟨i0, hi0, hz0, hz1, hz2⟩ := info_parts info127
  have hnew := cells_new (w.alloc (.cells #[.string x.1, .int .i64 x.2] 127)) [.string x.1, .int .i64 x.2] 127 (0, 0)
  have HV := Lib.hid hv; clear hv
  have hil : (0 : Int) ≤ (i : Int) := by omega
  go_enter Try.func144, Try.ntmps144
  go_wp2_with (at_builtin; refine wpList_append_f rfl _ _ 124 rfl 127 i0 _ 2 24 Try.underlying124 hi0 hz0 hz1 hz2 rfl (by decide) v L rfl ((HV.out.alloc _).alloc _) (w.heap.size + 1) 1 x rfl (by simpa [pairC] using hnew) rfl ?c1 ?c2 ?c3 ?_)
  case c1 => intro u hu; simp [pairC] at hu; rcases hu with rfl | rfl <;> rfl
  case c2 => unfold maxLen; omega
  case c3 => omega
  intro g o cap w1 hs1 hg1 hb1 hlt1
  have hgl := HV.out.lt
  have hF1 : Fr (fun b => v.ownBlock = some b) w w1 := ((((Fr.refl _ w).alloc _).alloc _).grown hg1 fun k hk => .inl hk)
  have hgne : g ≠ w.heap.size := by
    rintro rfl
    rcases hb1 with e | e
    · have := hgl _ e; omega
    · omega
  have hgnew : v.ownBlock = some g ∨ w.heap.size ≤ g := by
    rcases hb1 with e | e
    · exact .inl e
    · right; omega
  -- the box of x
  have hx1 : w1.heap[w.heap.size]? = some (.cells #[.string x.1, .int .i64 x.2] 127 (0, 0)) := by
    rw [hg1.block w.heap.size (by simp; omega) (fun e => by have := hgl _ e.symm; omega)]
    exact alloc_old (alloc_at _ _ _ rfl) _
  obtain ⟨cur, hcur, hncap, hfit⟩ : ∃ cur, w1.heap[g]? = some (.cells cur 127 (0, 0)) ∧ L.length + 1 ≤ cap ∧ o + cap * 2 ≤ cur.size := by
    rcases hs1.2 with ⟨h0, _⟩ | ⟨_, _, _, cur, hv, hc, h2, h3, h4, h5⟩
    · cases h0
    · simp only [Value.slice.injEq, Option.some.injEq, Addr.mk.injEq, and_true] at hv
      obtain ⟨⟨rfl, rfl⟩, _, rfl⟩ := hv
      exact ⟨cur, hc, by simpa using h2, h4⟩
  have hL1 : (L ++ [x]).length = L.length + 1 := by simp
  have H1 := Lib.hid hs1; clear hs1
  have HG1 := Lib.hid hg1; clear hg1
  have HL := Lib.hid hL1; clear hL1
  clear hnew
  have hi1 : (i : Int) + 1 ≤ (L.length : Int) + 1 := by omega
  have hi5 : (0 : Int) ≤ (i : Int) + 1 := by omega
  have hi2 : (i : Int) ≤ (L.length : Int) + 1 := by omega
  have hi3 : i + 1 ≤ L.length + 1 := by omega
  have hi4 : i ≤ L.length + 1 := by omega
  go_wp2_with fail
  refine wp_region_still_tail 7 (by kernel_rfl) (by kernel_rfl) ?_
  simp only [List.take_succ_cons, List.take_zero, List.drop_succ_cons, List.drop_zero]
  change wpStill _ _ w1.drew _ _ _
  repeat (refine wpStill_step (fun K hK => ?_); go_simp; (try go_bits); refine hK _ ?_; clear hK K)
  refine wpStill_nil ?_
  change wpList _ _ _ _ _ w1.drew
  have hlen2 : ((((L ++ [x]).drop i).take (L.length - i)).flatMap pairC).length = (L.length - i) * 2 := by
    rw [flat_length pairC_length]; congr 1; simp; omega
  have hmin : Nat.min (L.length + 1 - i) (L.length - i) = L.length - i := Nat.min_eq_right (by omega)
  refine wpList_copy_sl rfl _ _ 124 124 127 i0 rfl Try.underlying124 hi0 _ _ _ _ _ _ g (o + (i + 1) * 2) cur 127 ((((L ++ [x]).drop i).take (L.length - i)).flatMap pairC) rfl rfl hcur (by rw [hlen2, hz1, hmin]) ?hpos ?hfit ?h1 ?_
  case hpos =>
    intro hp
    rw [hlen2] at hp
    rw [if_neg (by omega), if_neg (by omega)]
    refine ⟨rfl, _, rfl, fun j u hu => ?_⟩
    have hj := (List.getElem?_eq_some_iff.1 hu).1
    rw [hlen2] at hj
    have hadd : (⟨g, o + i * 2, none⟩ : Addr).add j = ⟨g, o + (i * 2 + j), none⟩ := by unfold Addr.add; split <;> simp_all [Nat.add_assoc]
    rw [hadd]
    refine Sl.cell (by have := H1.out; unfold SlF at this; rw [HL.out] at this; exact this) (i * 2 + j) ?_
    rw [← flat_take pairC_length, List.getElem?_take, if_pos (by omega)] at hu
    rw [← hu]
    have h5 := congrArg (fun l => List.flatMap pairC l) (List.take_append_drop i (L ++ [x]))
    simp only [List.flatMap_append] at h5
    have h6 : (List.flatMap pairC (List.take i (L ++ [x]))).length = i * 2 := by rw [flat_length pairC_length]; congr 1; simp; omega
    rw [List.flatMap_append, ← h5, List.getElem?_append_right (by rw [h6]; omega), h6, show i * 2 + j - i * 2 = j from by omega]
  case hfit => rw [hlen2]; omega
  case h1 =>
    intro u hu
    obtain ⟨y, _, hy⟩ := List.mem_flatMap.1 hu
    simp [pairC] at hy
    rcases hy with rfl | rfl <;> rfl
  intro w2 hw2 hgr2
  generalize (if cap = i + 1 then some (⟨g, o, none⟩ : Addr) else some ⟨g, o + (i + 1) * 2, none⟩) = A1
  generalize (if cap = i then some (⟨g, o, none⟩ : Addr) else some ⟨g, o + i * 2, none⟩) = A2
  have hs2 := SlF.copied (w := w1) (w' := w2) (L := L ++ [x]) pairC_length (by have := H1.out; rwa [HL.out]) i (i + 1) (L.length - i) (by simp; omega) (by simp; omega) cur hcur (by rw [hlen2] at hw2; exact hw2)
  have hx2 : w2.heap[w.heap.size]? = some (.cells #[.string x.1, .int .i64 x.2] 127 (0, 0)) := (hgr2.block w.heap.size (heap_lt hx1) (fun e => hgne (by cases e; rfl))).trans hx1
  have b0 : w2.cell? ⟨w.heap.size, 0, none⟩ = some (.string x.1) := by simp [World.cell?, hx2]
  have b1 : w2.cell? ⟨w.heap.size, 1, none⟩ = some (.int .i64 x.2) := by simp [World.cell?, hx2]
  have HE := Lib.hid (insert_eq L x i hi)
  generalize hL2 : ((L ++ [x]).take (i + 1) ++ ((L ++ [x]).drop i).take (L.length - i) ++ (L ++ [x]).drop (i + 1 + (L.length - i))) = L2 at hs2 HE
  have hL2l : L2.length = L.length + 1 := by rw [← hL2]; simp; omega
  obtain ⟨y, hy⟩ : ∃ y, L2[i]? = some y := ⟨_, List.getElem?_eq_getElem (by omega)⟩
  have hs2' : SlF w2 127 2 pairC (.slice (some ⟨g, o, none⟩) L2.length cap) L2 := by rw [hL2l]; rwa [HL.out] at hs2
  have d0 := hs2'.cell0 pairC_length i hy rfl
  have d1 := hs2'.cell pairC_length i 1 hy rfl
  have f0 := hs2'.free (o + i * 2)
  have f1 := hs2'.free (o + i * 2 + 1)
  have H2 := Lib.hid hs2'
  have HY := Lib.hid hy
  have HL2 := Lib.hid hL2l
  have HG2 := Lib.hid hgr2
  have hi6 : (i : Int) < (L.length : Int) + 1 := by omega
  have hi7 : i < L.length + 1 := by omega
  clear hs2 hs2' hy hL2 hL2l hgr2 hw2 hx2 hlen2 hmin
  go_wp2
  go_ret
  refine ⟨g, o, cap, rfl, ?_, ?_, hgnew⟩
  · have e1 := SlF.set pairC_length H2.out i 0 (by omega) y (x.1, y.2) (.string x.1) HY.out rfl
    have hyl : (L2.set i (x.1, y.2)).length = L2.length := by simp
    have e2 := SlF.set (L := L2.set i (x.1, y.2)) pairC_length (by rw [hyl]; exact e1) i 1 (by omega) (x.1, y.2) x (.int .i64 x.2) (by rw [List.getElem?_set_self (by rw [HL2.out]; omega)]) rfl
    rw [List.set_set, hyl, HE.out, HL2.out] at e2
    exact e2
  · have hF2 : Fr (fun b => v.ownBlock = some b) w w2 := hF1.drew.grown HG2.out fun k hk => by cases hk; exact hgnew
    exact ((hF2.setCell (p := ⟨g, o + i * 2, none⟩) hgnew _).setCell (p := ⟨g, o + i * 2 + 1, none⟩) hgnew _)
end Go.Proofs.Ythljnnjpmdgkoaa
