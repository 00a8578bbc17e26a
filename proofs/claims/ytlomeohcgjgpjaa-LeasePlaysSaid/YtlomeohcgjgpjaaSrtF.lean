/- slices.SortFunc over leases as they stand, by the shelf: the same records, their numbers rising. The condition: numbers from 1 on, no number twice. -/
import Derived.Test.YtlomeohcgjgpjaaSrt
import Derived.Test.YtlomeohcgjgpjaaLeaA
namespace Go.Proofs.Ytlomeohcgjgpjaa
open Go Go.Proofs Go.RowKit Go.Sort
set_option maxRecDepth 100000

def lvC (p : LV × Value) : List Value := [.int .i64 p.1.id, .int .i64 p.1.ticks, .int .i64 p.1.left, p.2]
theorem lvC_length (p : LV × Value) : (lvC p).length = 4 := rfl
def RecOk (p : LV × Value) : Prop := 1 ≤ p.1.id ∧ p.1.id ≤ maxI ∧ ∃ a n c, p.2 = .slice a n c
structure Rec where
  p : LV × Value
  ok : RecOk p
instance : Inhabited Rec := ⟨⟨(⟨1, 0, 0, []⟩, .slice none 0 0), by decide, by unfold maxI; decide, none, 0, 0, rfl⟩⟩
def recC (r : Rec) : List Value := lvC r.p
theorem recC_length (r : Rec) : (recC r).length = 4 := rfl
def recF (x y : Rec) : Int := x.p.1.id - y.p.1.id
theorem recC_one (r : Rec) : ∀ v ∈ recC r, v.oneCell' = true := by
  obtain ⟨p, h1, h2, a, n, c, h3⟩ := r
  intro v hv
  unfold recC lvC at hv
  dsimp only at hv
  rw [h3] at hv
  simp only [List.mem_cons, List.not_mem_nil, or_false] at hv
  rcases hv with h | h | h | h <;> (rw [h]; rfl)
theorem recF_swo : SWO (ltOf recF) where
  irrefl x := by simp [ltOf, recF]
  trans x y z h1 h2 := by
    unfold ltOf recF at *
    rw [decide_eq_true_eq] at *
    omega
  ntrans x y z h1 h2 := by
    unfold ltOf recF at *
    rw [decide_eq_false_iff_not] at *
    omega
set_option maxHeartbeats 1000000 in
theorem cmp_calls (W : World) (x y : Rec) : Calls Try.prog 31 #[.agg (recC x).toArray, .agg (recC y).toArray] W fun e w' => e = .returned (.int .i64 (recF x y)) ∧ w' = (W.alloc (.cells (recC x).toArray 36)).alloc (.cells (recC y).toArray 36) := by
  obtain ⟨⟨⟨x1, x2, x3, x4⟩, xv⟩, hx1, hx2, xa, xn, xc, hx3⟩ := x
  obtain ⟨⟨⟨y1, y2, y3, y4⟩, yv⟩, hy1, hy2, ya, yn, yc, hy3⟩ := y
  dsimp only at hx1 hx2 hx3 hy1 hy2 hy3
  subst hx3 hy3
  unfold recC lvC recF
  unfold maxI at hx2 hy2
  dsimp only
  have e1 : IntKind.i64.wrap (x1 - y1) = x1 - y1 := IntWalk.i64_in _ (by omega)
  have HE := Lib.hid e1
  clear e1
  go_enter Try.func31, Try.ntmps31
  go_wp2
  go_ret
  exact ⟨by simp, rfl⟩
theorem e31 : ∀ args w, (callFunc 31 args).run Try.prog w = .ok (.enter 31 args) w := Go.Proofs.enters_of Try.func31 (by kernel_rfl) rfl
theorem flatK_eq (D : List Rec) : flatK recC 4 D.toArray = (D.flatMap recC).toArray := by
  have hl := flat_length recC_length D
  apply Array.ext
  · simp [hl]
  · intro t h1 h2
    have h1' : t < D.length * 4 := by simpa using h1
    have hg := get_flatK recC 4 D.toArray t (by simpa using h1')
    rw [getElem!_pos _ t h1] at hg
    rw [hg]
    have hq : t / 4 < D.length := by omega
    have hf := flat_get recC_length D (t / 4) (t % 4) (by omega)
    rw [show t / 4 * 4 + t % 4 = t from by omega, List.getElem?_eq_getElem hq, Option.bind_some] at hf
    have hr : t % 4 < (recC D[t / 4]).length := by rw [recC_length]; omega
    rw [List.getElem?_eq_getElem hr, List.getElem?_eq_getElem (by omega)] at hf
    have h3 := Option.some.inj hf
    simp only [List.getElem_toArray]
    rw [h3]
    have e1 : D.toArray[t / 4]! = D[t / 4] := by rw [getElem!_pos D.toArray (t / 4) (by simpa using hq)]; simp
    rw [e1, getElem!_pos (recC D[t / 4]) (t % 4) hr]
theorem rise_of {P : List (LV × Value)} (h1 : P.Pairwise fun p q => p.1.id ≤ q.1.id) (h2 : (P.map (·.1.id)).Nodup) : P.Pairwise fun p q => p.1.id < q.1.id := by
  have h3 : P.Pairwise fun p q => p.1.id ≠ q.1.id := by
    unfold List.Nodup at h2
    rwa [List.pairwise_map] at h2
  exact (h1.and h3).imp fun {a b} ⟨h4, h5⟩ => by omega
set_option maxHeartbeats 1000000 in
theorem sortF_calls (w : World) (v : Value) (P : List (LV × Value)) (hv : SlF w 36 4 lvC v P) (hl : P.length ≤ 1099511627) (hok : ∀ p ∈ P, RecOk p) (hnd : (P.map (·.1.id)).Nodup) :
    Calls Try.prog 30 #[v, .func (.func 31) #[] #[]] w fun e w' => e = .returned (.tuple #[]) ∧ ∃ P', P'.Perm P ∧ P'.Pairwise (fun p q => p.1.id < q.1.id) ∧ SlF w' 36 4 lvC v P' ∧ Fr (fun b => v.ownBlock = some b) w w' := by
  obtain ⟨a, cap, rfl, h1, h2, h3⟩ := hv.shape
  by_cases h0 : P.length = 0
  · have hz : P = [] := List.eq_nil_of_length_eq_zero h0
    subst hz
    exact (AnyF.slices_SortFunc_none laySortF a cap _ w).mono fun _ _ ⟨e1, e2⟩ => ⟨e1, [], List.Perm.refl _, .nil, by subst e2; exact hv, by subst e2; exact Fr.refl _ _⟩
  · obtain ⟨g, o, rfl⟩ := h3 (by omega)
    obtain ⟨D, hD⟩ : ∃ D : List Rec, D.map Rec.p = P := ⟨P.pmap (fun p h => (⟨p, h⟩ : Rec)) hok, by rw [List.map_pmap]; simp⟩
    have hDl : D.length = P.length := by rw [← hD, List.length_map]
    have hfl : ∀ D : List Rec, (D.map Rec.p).flatMap lvC = D.flatMap recC := fun D => by rw [List.flatMap_map]; rfl
    have hH : HoldsK recC 4 w g o D.toArray := by
      unfold HoldsK
      rw [flatK_eq, ← hfl, hD]
      intro j hj
      refine ⟨?_, hv.free _⟩
      rw [List.size_toArray] at hj
      have := Sl.cell hv j (List.getElem?_eq_getElem hj)
      rw [this]
      simp
      rw [List.getElem?_eq_getElem hj]; rfl
    have hcmp : CmpLays Try.prog 31 #[] recC 4 recF g o D.toArray.size w := fun m os dk _ x y => by
      refine (cmp_calls _ x y).mono ?_
      rintro e w' ⟨rfl, rfl⟩
      refine ⟨rfl, 0, #[.cells (recC x).toArray 36, .cells (recC y).toArray 36], ?_⟩
      rw [alloc_eq_grow, alloc_eq_grow, grow_grow]
      rfl
    have hc := AnyQ.slices_SortFunc laySortF 4 Try.isAgg36 Try.sizeOf36 recC recC_length recC_one recF recF_swo 31 #[] g o cap D.toArray w e31 hcmp hH (hv.lt g rfl) (by simp; omega)
    have hsz : D.toArray.size = P.length := by simp [hDl]
    rw [hsz] at hc
    refine hc.mono ?_
    rintro e w' ⟨e1, d', n, os, hp, hs, rfl⟩
    obtain ⟨p1, _, p3⟩ := hp
    have hd' : d' = d'.toList.toArray := by simp
    have hx1 : (d'.extract 0 P.length).toList = d'.toList := by
      rw [← hsz, ← p1]; simp
    have hx2 : (D.toArray.extract 0 P.length).toList = D := by
      rw [← hsz]; simp
    rw [hx1, hx2] at p3
    have hdl : d'.toList.length = P.length := by rw [Array.length_toList, p1, hsz]
    have hperm : (d'.toList.map Rec.p).Perm P := by rw [← hD]; exact p3.map _
    refine ⟨e1, d'.toList.map Rec.p, hperm, rise_of ?_ ((hperm.map _).nodup_iff.2 hnd), ?_, ?_⟩
    · rw [List.pairwise_map, List.pairwise_iff_getElem]
      intro i j hi hj hij
      have := hs i j (Nat.zero_le _) hij (by rw [← hdl]; exact hj)
      rw [getElem!_pos _ j (by simpa using hj), getElem!_pos _ i (by simpa using hi)] at this
      unfold ltOf recF at this
      rw [decide_eq_false_iff_not] at this
      simp only [Array.getElem_toList]
      omega
    · unfold sortWorldK putRowK
      rw [hd', flatK_eq, ← hfl]
      exact row_sl lvC_length hv (by rw [List.length_map]; simpa using hdl)
    · unfold sortWorldK putRowK
      exact (row_fr w g o n _ os).mono fun b _ e => by rw [e]; rfl
end Go.Proofs.Ytlomeohcgjgpjaa
