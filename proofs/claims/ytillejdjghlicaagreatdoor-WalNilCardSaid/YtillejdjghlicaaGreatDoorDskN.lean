/- A disk in memory: its files' names, sorted (maps.Keys and slices.Sorted, Names). The condition: fewer than 2^40 files. -/
import Derived.Test.YtillejdjghlicaaGreatDoorDskH
import Derived.Test.YtillejdjghlicaaGreatDoorLayK
namespace Go.Proofs.YtillejdjghlicaaGreatDoor
open Go Go.Proofs Go.RowKit Go.WideElems Go.ChangeMaps Go.WideMaps Go.Maps Go.Sort Go.Shelf
set_option maxRecDepth 100000

/-- slices.Sort's two contracts. -/
theorem sortsK (m : Nat) : AnyZ.SortsIn Tryz.prog laySorted_ren Fence.wide m :=
  ⟨fun blk off cap ss W hH hblk hsz => callsIn_wide.2 (AnyM.slices_Sort_string laySort blk off cap ss W hH hblk hsz),
   fun p cap W => callsIn_wide.2 (AnyM.slices_Sort_string_none laySort p cap W)⟩
theorem keysK_calls (mb : Option Nat) (W : World) : Calls Tryz.prog 36 #[.map mb] W fun e w' => e = .returned (.func (.func 51) #[] #[.pointer (some ⟨W.heap.size, 0, none⟩)]) ∧ w' = W.alloc (.cells #[.map mb] 45) :=
  callsIn_wide.1 (AnyZ.keys_in layKeys Fence.wide 5 trivial rfl mb W)
theorem sortedK_calls {H : Type} (b nn : Nat) (D0 : DataW H) (R : Value → Option (DataW H × List MemPlace)) (w : World) (hown : w.ownsMap Tryz.prog 9 R b nn D0) (hmax : Maps.size D0 ≤ maxLen) (hbytes : Maps.size D0 * 16 ≤ 140737488355328) :
    Calls Tryz.prog 35 #[.func (.func 51) #[] #[.pointer (some ⟨w.heap.size, 0, none⟩)]] (w.alloc (.cells #[.map (some b)] 45)) fun e w' => ∃ (v : Value) (ss : List (List UInt8)), e = .returned v ∧ ss.Perm (strKeys D0) ∧
      w'.ownsRow (w.alloc (.cells #[.map (some b)] 45)).heap.size 9 1 v ss.length ((ss.mergeSort (fun x y => decide (x ≤ y))).map encStr) ∧ (v = .slice none 0 0 ↔ ss = []) ∧ Below (w.alloc (.cells #[.map (some b)] 45)).heap.size (w.alloc (.cells #[.map (some b)] 45)) w' := by
  have hbl := hown.lt
  have hseq : SeqGives Fence.wide 2 Tryz.prog 51 #[.pointer (some ⟨w.heap.size, 0, none⟩)] encStr (fun ss => ss.Perm (strKeys D0)) (Maps.size D0) (w.alloc (.cells #[.map (some b)] 45)) :=
    AnyZ.keys_gives (ρ := layKeys_ren) { layKeys with } Fence.wide _ trivial rfl (by omega) w.heap.size b nn D0 _ (by simp) (by simp) (by
      obtain ⟨es, clock, hb, Ft, hs, hD⟩ := hown
      exact ⟨es, clock, (Below.heap_alloc _ _ b hbl).trans hb, Ft, hs, hD⟩)
  exact callsIn_wide.1 (AnyZ.sorted_in laySorted Fence.wide 5 trivial trivial trivial trivial rfl (by omega) (sortsK _) (enters_of Tryz.func50 (by kernel_rfl) rfl) 51 #[.pointer (some ⟨w.heap.size, 0, none⟩)] trivial (enters_of Tryz.func51 (by kernel_rfl) rfl) _ _ hmax hbytes _ hseq)
/-- A map from texts, read for its keys alone. -/
def readN : Value → Option (DataW Unit × List MemPlace) := fun _ => some (.nil, [])
def txt (n : ByteArray) : List UInt8 := n.data.toList
theorem txt_inj {a b : ByteArray} (h : txt a = txt b) : a = b := by
  cases a; cases b
  simpa [txt] using h
theorem MapS.owned {w : World} {b : Nat} {f : ByteArray → Option Value} (h : MapS w b f) {l : List ByteArray} (hl : l.Nodup) (hm : ∀ n, n ∈ l ↔ (f n).isSome = true) (hlen : l.length ≤ 1099511627776) :
    ∃ nn D0, w.ownsMap Tryz.prog 9 readN b nn D0 ∧ Maps.size D0 = l.length ∧ (l.map txt).Perm (strKeys D0) := by
  obtain ⟨es, clock, hb, hst, h1, h2⟩ := h
  have hk : Tryz.prog.underlying 9 = some .string := Tryz.underlying9
  have K := Maps.string_keyed hk
  have hrd : ∀ x ∈ es.toList, ∃ n, x.key = .string n ∧ (f n).isSome = true ∧ WideElems.rd Tryz.prog 9 readN x = some (.string n.data.toList, .nil) := fun x hx => by
    obtain ⟨n, e1, e2, e3⟩ := h1 x hx
    refine ⟨n, e1, by rw [e3]; rfl, ?_⟩
    unfold WideElems.rd
    rw [e1, keyOf_string_mk hk e2]
    rfl
  have hnd : es.toList.Pairwise (fun x y => x.key ≠ y.key) := ((MapKept.stamped_iff _ _).1 hst).2.2
  have hperm : (es.toList.map (·.key)).Perm (l.map Value.string) := by
    refine (List.perm_ext_iff_of_nodup ?_ ?_).2 fun v => ?_
    · exact List.pairwise_map.2 hnd
    · exact List.pairwise_map.2 (hl.imp fun hne e => hne (by simpa using e))
    · rw [List.mem_map, List.mem_map]
      constructor
      · rintro ⟨x, hx, rfl⟩
        obtain ⟨n, e1, e2, _⟩ := hrd x hx
        exact ⟨n, (hm n).2 e2, e1.symm⟩
      · rintro ⟨n, hn, rfl⟩
        obtain ⟨u, hu⟩ := Option.isSome_iff_exists.1 ((hm n).1 hn)
        obtain ⟨x, hx, e1, _⟩ := h2 n u hu
        exact ⟨x, hx, e1⟩
  have hsz : es.size = l.length := by simpa using hperm.length_eq
  have F : Fit Tryz.prog 9 readN es clock := ⟨by rw [hsz]; simp only [maxLen]; omega, hst, fun x hx => by obtain ⟨n, _, _, e⟩ := hrd x hx; exact ⟨_, e⟩⟩
  have hown : w.ownsMap Tryz.prog 9 readN b es.size (.map ((es.toList.map (WideElems.rg Tryz.prog 9 readN)).foldr DataW.insert [])) := ⟨es, clock, hb, F, Nat.le_refl _, rfl⟩
  obtain ⟨es', hD, hpw, _⟩ := hown.entries K
  refine ⟨es.size, _, hown, ?_, ?_⟩
  · rw [Maps.size_eq, (WideShapes.sorted_perm _).length_eq, List.length_map]
    exact hsz
  · have hmem : ∀ p, p ∈ (es.toList.map (WideElems.rg Tryz.prog 9 readN)).foldr DataW.insert [] ↔ p ∈ es.toList.map (WideElems.rg Tryz.prog 9 readN) := fun p => mem_sorted
    have hD' : (es.toList.map (WideElems.rg Tryz.prog 9 readN)).foldr DataW.insert [] = es' := by simpa using hD
    rw [hD'] at hmem ⊢
    have hkey : ∀ p ∈ es', ∃ x ∈ es.toList, ∃ n, x.key = .string n ∧ p.1 = .string (txt n) := fun p hp => by
      obtain ⟨x, hx, rfl⟩ := List.mem_map.1 ((hmem p).1 hp)
      obtain ⟨n, e1, _, e3⟩ := hrd x hx
      exact ⟨x, hx, n, e1, by unfold WideElems.rg; rw [e3]; rfl⟩
    refine perm_strKeys hpw (fun p hp => by obtain ⟨_, _, n, _, e⟩ := hkey p hp; exact ⟨_, e⟩) (List.pairwise_map.2 (hl.imp fun hne e => hne (txt_inj e))) fun x => ?_
    rw [has_eq, List.any_eq_true, List.mem_map]
    constructor
    · rintro ⟨n, hn, rfl⟩
      obtain ⟨u, hu⟩ := Option.isSome_iff_exists.1 ((hm n).1 hn)
      obtain ⟨y, hy, e1, _⟩ := h2 n u hu
      obtain ⟨n', e2, _, e3⟩ := hrd y hy
      rw [e1] at e2
      cases e2
      refine ⟨WideElems.rg Tryz.prog 9 readN y, (hmem _).2 (List.mem_map.2 ⟨y, hy, rfl⟩), ?_⟩
      unfold WideElems.rg
      rw [e3]
      simp [Lit.sameKey, txt]
    · rintro ⟨p, hp, hs⟩
      obtain ⟨y, hy, n, e1, e2⟩ := hkey p hp
      rw [e2] at hs
      obtain ⟨n', e3, e4, _⟩ := hrd y hy
      rw [e1] at e3
      cases e3
      refine ⟨n, (hm n).2 e4, ?_⟩
      simpa [Lit.sameKey] using hs
def strB (n : ByteArray) : List Value := [.string n]
theorem strB_length (n : ByteArray) : (strB n).length = 1 := rfl
/-- The names of files, rising. -/
structure NamesD (f : ByteArray → Option (ByteArray × Int)) (l : List ByteArray) : Prop where
  nd : l.Nodup
  mem : ∀ n, n ∈ l ↔ (f n).isSome = true
  asc : (l.map txt).Pairwise (fun x y => x ≤ y)
  len : l.length ≤ 1099511627776
theorem sortedD_calls {w : World} {d m : Nat} {f : ByteArray → Option (ByteArray × Int)} {lim armed : Int} {dead : Bool} (a : DkAt w d m f lim armed dead) {l : List ByteArray} (hl : NamesD f l) :
    Calls Tryz.prog 35 #[.func (.func 51) #[] #[.pointer (some ⟨w.heap.size, 0, none⟩)]] (w.alloc (.cells #[.map (some m)] 45)) fun e w' => ∃ v, e = .returned v ∧ SlF w' 9 1 strB v l ∧ Fr No w w' ∧ ∀ b, v.ownBlock = some b → w.heap.size ≤ b := by
  obtain ⟨nn, D0, hown, hsz, hp⟩ := a.map.owned hl.nd (fun n => by rw [hl.mem n]; cases f n <;> rfl) hl.len
  have hlen := hl.len
  refine (sortedK_calls m nn D0 readN w hown (by rw [hsz]; simp only [maxLen]; omega) (by rw [hsz]; omega)).mono ?_
  rintro e w' ⟨v, ss, rfl, hS, hrow, hnil, hb⟩
  have hms : ss.mergeSort (fun x y => decide (x ≤ y)) = l.map txt := by
    have h1 := mergeSort_of_perm (hS.trans hp.symm)
    have h2 : (l.map txt).mergeSort (fun x y => decide (x ≤ y)) = l.map txt := List.mergeSort_of_pairwise (hl.asc.imp fun h => by simpa using h)
    exact h1.trans h2
  have hss : ss.length = l.length := by
    have := (hS.trans hp.symm).length_eq
    rwa [List.length_map] at this
  rw [hms, hss] at hrow
  have hmap : (l.map txt).map encStr = l.flatMap strB := by
    clear hl hp hsz hlen hrow hms hss a hnil hb
    rw [List.map_map]
    induction l with
    | nil => rfl
    | cons a l ih => rw [List.map_cons, List.flatMap_cons, ih]; rfl
  rw [hmap] at hrow
  refine ⟨v, rfl, ?_, (((Fr.refl No w).alloc _)).trans (Fr.of_below hb) fun _ _ h => h, fun b hb' => ?_⟩
  · obtain ⟨h1, h2⟩ := hrow
    refine ⟨h1, ?_⟩
    rcases h2 with h | ⟨g, cap, cur, h3, _, h4, h5, h6, h7, h8⟩
    · exact .inl h
    · exact .inr ⟨g, 0, cap, cur, h3, h4, h5, h6, by omega, by simpa using h8⟩
  · obtain ⟨h1, h2⟩ := hrow
    rcases h2 with ⟨h, _⟩ | ⟨g, cap, cur, h3, h9, _⟩
    · rw [h] at hb'; cases hb'
    · rw [h3] at hb'
      simp [Value.ownBlock] at hb' h9
      omega
theorem dnames_calls {w : World} {d m : Nat} {f : ByteArray → Option (ByteArray × Int)} {lim armed : Int} (a : DkAt w d m f lim armed false) {l : List ByteArray} (hl : NamesD f l) :
    Calls Tryz.prog 13 #[.pointer (some ⟨d, 0, none⟩)] w fun e w' => ∃ v, e = .returned v ∧ SlF w' 9 1 strB v l ∧ Fr No w w' ∧ ∀ b, v.ownBlock = some b → w.heap.size ≤ b := by
  have hL := dlives_calls a
  have hS := sortedD_calls a hl
  have c0 : w.cell? ⟨d, 0, none⟩ = some (.map (some m)) := cellAt a.obj 0 rfl
  have ld := heap_lt a.obj
  have HL := Lib.hid hL
  have HS := Lib.hid hS
  clear hL hS a
  go_enter Tryz.func13, Tryz.ntmps13
  go_wp2_with (first
    | (go_at_call 33; (with_reducible refine HL.out.mono ?_); rintro e w1 ⟨rfl, rfl⟩)
    | (go_at_call 36; (with_reducible refine (keysK_calls _ _).mono ?_); rintro e w1 ⟨rfl, rfl⟩)
    | (go_at_call 35; (with_reducible refine HS.out.mono ?_); rintro e w2 ⟨v, rfl, h1, h2, h3⟩))
  go_ret
  exact ⟨v, rfl, h1, h2, h3⟩
end Go.Proofs.YtillejdjghlicaaGreatDoor
