/- A disk in memory: how many bytes all files have. The condition: not too many. -/
import Derived.Test.YtillejdjghlicaaGreatDoorDskF
import Derived.Test.YtillejdjghlicaaGreatDoorRngM
namespace Go.Proofs.YtillejdjghlicaaGreatDoor
open Go Go.Proofs Go.RowKit Go.WideElems Go.ChangeMaps Go.WideMaps
set_option maxRecDepth 100000

/-- How many bytes files have, by their names. -/
def sumD (f : ByteArray → Option (ByteArray × Int)) (l : List ByteArray) : Nat := (l.map fun n => (dataD f n).size).sum
theorem sumD_snoc (f : ByteArray → Option (ByteArray × Int)) (l : List ByteArray) (n : ByteArray) : sumD f (l ++ [n]) = sumD f l + (dataD f n).size := by
  unfold sumD
  rw [List.map_append, List.sum_append]
  simp
/-- How far the range over the files is: the names seen, and no others. -/
structure RngD (f : ByteArray → Option (ByteArray × Int)) (es : Array MapEntry) (seen : Array Nat) (P : List ByteArray) : Prop where
  there : ∀ p ∈ P, (f p).isSome = true
  nd : P.Nodup
  all : ∀ x ∈ es.toList, seen.contains x.born = true → ∀ i, x.key = .string i → i ∈ P
  old : ∀ p ∈ P, ∃ x ∈ es.toList, seen.contains x.born = true ∧ x.key = .string p
set_option maxHeartbeats 8000000 in
theorem dall_calls {w : World} {d m : Nat} {f : ByteArray → Option (ByteArray × Int)} {lim armed : Int} {dead : Bool} (a : DkAt w d m f lim armed dead) (hB : ∀ l : List ByteArray, l.Nodup → (∀ n ∈ l, (f n).isSome = true) → sumD f l ≤ 4611686018427387903) :
    Calls Tryz.prog 34 #[.pointer (some ⟨d, 0, none⟩)] w fun e w' => ∃ l : List ByteArray, l.Nodup ∧ (∀ n, n ∈ l ↔ (f n).isSome = true) ∧ e = .returned (.int .i64 (sumD f l)) ∧ Fr No w w' := by
  have c0 : w.cell? ⟨d, 0, none⟩ = some (.map (some m)) := cellAt a.obj 0 rfl
  have ld := heap_lt a.obj
  obtain ⟨es, clock, hb, hst, hk1, hk2⟩ := a.map
  have hrg := run_range_map (P := Tryz.prog) w 45 9 65 m es clock Tryz.underlying45 hb
  have HBB := Lib.hid hB
  have HB := Lib.hid hb
  have HST := Lib.hid hst
  have HK1 := Lib.hid hk1
  have HK2 := Lib.hid hk2
  clear a hb hst hk1 hk2 hB
  go_enter Tryz.func34, Tryz.ntmps34
  go_wp2
  clear hrg
  go_loopg [3] es.size (fun gg s3 wr => ∃ (seen : Array Nat) (k0 : Nat) (P : List ByteArray), s3 = .int .i64 (sumD f P) ∧ gg = (leftOf es seen).size ∧ clock ≤ k0 ∧ Hid (wr.heap[w.heap.size]? = some (.mapIter (some m) clock seen k0)) ∧ Hid (RngD f es seen P) ∧ Hid (Fr No w wr))
  case atStart => exact ⟨#[], clock, [], rfl, by rw [left_nil], Nat.le_refl _, Lib.hid (heap_alloc_new _ _), Lib.hid ⟨by simp, by simp, by simp, by simp⟩, Lib.hid ((Fr.refl No w).alloc _)⟩
  case round =>
    obtain ⟨seen, k0, P, rfl, hgg, hk0, HI, HR, HF⟩ := hrel
    have hbr := HF.out.heap HB.out fun h => h
    have hnx := _root_.Go.run_next_at (P := Tryz.prog) wr 0 w.heap.size m clock k0 seen es clock HI.out hbr HST.out.1 hk0
    rcases hnx with ⟨h0, hrun⟩ | ⟨e, he, w2, hw2, hrun⟩
    · clear hbr
      go_wp2
      go_ret
      refine ⟨P, HR.out.nd, fun n => ⟨HR.out.there n, fun hn => ?_⟩, rfl, HF.out⟩
      obtain ⟨x, hx⟩ := Option.isSome_iff_exists.1 hn
      obtain ⟨y, hy, hy1, _⟩ := HK2.out n (fileV x) (by rw [hx]; rfl)
      exact HR.out.all y hy (left_done h0 y hy) n hy1
    · obtain ⟨he1, he2⟩ := mem_left he
      obtain ⟨i, hkey, hwf, hval⟩ := HK1.out e he1
      have hsh := left_shrinks es seen e he
      have hlr : w.heap.size < wr.heap.size := heap_lt HI.out
      have hlw : w.heap.size < w2.heap.size := by rcases hw2 with rfl | rfl <;> exact hlr
      obtain ⟨hit, hsz3⟩ := iter_fr (b := w.heap.size) hw2 (.mapIter (some m) clock (seen.push e.born) clock)
      have hi3 := setB_at w2 w.heap.size (.mapIter (some m) clock (seen.push e.born) clock) hlw
      have hf3 : Fr No w (ChangeMaps.setBlock w2 w.heap.size (.mapIter (some m) clock (seen.push e.born) clock)) := HF.out.trans hit fun j hj e' => by
        have e'' : j = w.heap.size := e'
        omega
      have hb3 := hf3.heap HB.out fun h => h
      have hent := run_entry_at (P := Tryz.prog) _ w.heap.size m clock seen es clock e hi3 hb3 he1 HST.out.2.1
      obtain ⟨⟨x1, x2⟩, hx⟩ : ∃ x, f i = some x := by
        cases hl : f i with
        | none => rw [hl] at hval; cases hval
        | some l => exact ⟨l, rfl⟩
      have hev : e.val = .agg #[.string x1, .int .i64 x2] := by
        rw [hx] at hval
        exact (Option.some.inj hval).symm
      have hdx : dataD f i = x1 := by unfold dataD; rw [hx]; rfl
      rw [hkey] at hrun
      rw [hkey, hev] at hent
      have hri : RngD f es (seen.push e.born) (P ++ [i]) := by
        refine ⟨fun q hq => ?_, ?_, fun x hx' hc j hj => ?_, fun q hq => ?_⟩
        · rcases List.mem_append.1 hq with hq | hq
          · exact HR.out.there q hq
          · rw [List.mem_singleton] at hq; subst hq
            rw [hx]; rfl
        · rw [List.nodup_append]
          refine ⟨HR.out.nd, by simp, fun a ha b hb hab => ?_⟩
          rw [List.mem_singleton] at hb
          obtain ⟨x, hx', hc, hxk⟩ := HR.out.old a ha
          have : x = e := key_uniq HST.out.2.2 hx' he1 (by rw [hxk, hkey, hab, hb])
          rw [this] at hc
          rw [he2] at hc
          cases hc
        · rcases seen_push HST.out.2.1 he1 hx' hc with h | h
          · exact List.mem_append_left _ (HR.out.all x hx' h j hj)
          · subst h
            rw [hkey] at hj
            cases hj
            exact List.mem_append_right _ (List.mem_singleton_self _)
        · rcases List.mem_append.1 hq with hq | hq
          · obtain ⟨x, hx', hc, hxk⟩ := HR.out.old q hq
            exact ⟨x, hx', seen_old hc, hxk⟩
          · rw [List.mem_singleton] at hq; subst hq
            exact ⟨e, he1, seen_new, hkey⟩
      have hsn := sumD_snoc f P i
      rw [hdx] at hsn
      have hle := HBB.out (P ++ [i]) hri.nd hri.there
      rw [hsn] at hle
      have hwr : IntKind.i64.wrap ((sumD f P : Int) + (x1.size : Int)) = (sumD f P : Int) + x1.size := by rw [IntKind.wrap_i64]; omega
      have ld3 := Nat.lt_of_lt_of_le ld hf3.size
      have HRI := Lib.hid hri
      have HSN := Lib.hid hsn
      generalize hW3 : ChangeMaps.setBlock w2 w.heap.size (.mapIter (some m) clock (seen.push e.born) clock) = W3 at *
      have HF3 := Lib.hid hf3
      have HI3 := Lib.hid hi3
      have HGG := Lib.hid hgg
      have HSH := Lib.hid hsh
      clear hbr hri hsn hle hf3 hi3 hb3 hit hgg hsh hkey hval hx hev hdx hwf
      go_wp2
      generalize hgs : (leftOf es (seen.push e.born)).size = gs at *
      have HGS := Lib.hid hgs
      clear hgs
      go_roundg gs
      case rel => exact ⟨seen.push e.born, clock, P ++ [i], by rw [HSN.out]; simp, HGS.out.symm, Nat.le_refl _, Lib.hid (((Fr.refl No W3).alloc _).heap HI3.out fun h => h), HRI, Lib.hid (HF3.out.alloc _)⟩
      case measure =>
        have h1 := HSH.out
        have h2 := HGG.out
        omega
end Go.Proofs.YtillejdjghlicaaGreatDoor
