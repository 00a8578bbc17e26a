/- The table's List over the document's table: all leases, their numbers rising, in memory of its own. The condition: at most 1000 calls. -/
import Derived.Test.YtlomeohcgjgpjaaLeaY
import Derived.Test.YtlomeohcgjgpjaaSrtF
import Derived.Test.YtlomeohcgjgpjaaRngM
namespace Go.Proofs.Ytlomeohcgjgpjaa
open Go Go.Proofs Go.RowKit
set_option maxRecDepth 100000

/-- A list of leases in memory of its own, from block B on. -/
structure Lst (B : Nat) (w : World) (v : Value) (P : List (LV × Value)) : Prop where
  sl : SlF w 36 4 lvC v P
  new : ∀ b, v.ownBlock = some b → B ≤ b
  keys : ∀ p ∈ P, SlF w 9 1 strC p.2 p.1.keys ∧ ∀ b, p.2.ownBlock = some b → B ≤ b ∧ v.ownBlock ≠ some b
  apart : P.Pairwise fun p q => ∀ b, p.2.ownBlock = some b → q.2.ownBlock ≠ some b
theorem Lst.fr {B : Nat} {w w' : World} {v : Value} {P : List (LV × Value)} {S : Nat → Prop} (h : Lst B w v P) (hf : Fr S w w') (h1 : ∀ b, v.ownBlock = some b → ¬ S b) (h2 : ∀ p ∈ P, ∀ b, p.2.ownBlock = some b → ¬ S b) : Lst B w' v P :=
  ⟨h.sl.fr hf h1, h.new, fun p hp => ⟨(h.keys p hp).1.fr hf (h2 p hp), (h.keys p hp).2⟩, h.apart⟩
theorem Lst.fr0 {B : Nat} {w w' : World} {v : Value} {P : List (LV × Value)} (h : Lst B w v P) (hf : Fr No w w') : Lst B w' v P := h.fr hf (fun _ _ h => h) fun _ _ _ _ h => h
theorem Lst.nil (B : Nat) (w : World) : Lst B w (.slice none 0 0) [] := ⟨SlF.nil _ _ _ _, by simp [Value.ownBlock], by simp, .nil⟩
theorem Lst.low {A B : Nat} {w : World} {v : Value} {P : List (LV × Value)} (h : Lst B w v P) (hA : A ≤ B) : Lst A w v P :=
  ⟨h.sl, fun b hb => Nat.le_trans hA (h.new b hb), fun p hp => ⟨(h.keys p hp).1, fun b hb => ⟨Nat.le_trans hA ((h.keys p hp).2 b hb).1, ((h.keys p hp).2 b hb).2⟩⟩, h.apart⟩
/-- Behind List. -/
def ListTo (w w' : World) (R : List LV) (e : Ending) : Prop := ∃ v P, e = .returned v ∧ Lst w.heap.size w' v P ∧ P.map (·.1) = R ∧ Fr No w w'
theorem List_nil (w : World) : Calls Try.prog 11 #[.pointer none] w fun e w' => e = .returned (.slice none 0 0) ∧ w = w' := by
  go_enter Try.func11, Try.ntmps11
  go_wp2
  go_ret
  exact ⟨rfl, rfl⟩
theorem rise_extF {α : Type} {f : α → Int} {a b : List α} (ha : a.Pairwise fun x y => f x < f y) (hb : b.Pairwise fun x y => f x < f y) (h : ∀ x, x ∈ a ↔ x ∈ b) : a = b := by
  induction a generalizing b with
  | nil =>
    cases b with
    | nil => rfl
    | cons y b => exact absurd ((h y).2 (List.mem_cons_self ..)) (by simp)
  | cons x a ih =>
    cases b with
    | nil => exact absurd ((h x).1 (List.mem_cons_self ..)) (by simp)
    | cons y b =>
      obtain ⟨a1, a2⟩ := List.pairwise_cons.1 ha
      obtain ⟨b1, b2⟩ := List.pairwise_cons.1 hb
      have hxy : x = y := by
        rcases List.mem_cons.1 ((h x).1 (List.mem_cons_self ..)) with e | e
        · exact e
        · rcases List.mem_cons.1 ((h y).2 (List.mem_cons_self ..)) with e' | e'
          · exact e'.symm
          · have := b1 x e; have := a1 y e'; omega
      subst hxy
      rw [ih a2 b2 fun z => ?_]
      have := h z
      rw [List.mem_cons, List.mem_cons] at this
      constructor
      · intro hz
        rcases this.1 (.inr hz) with e | e
        · subst e; exact absurd (a1 z hz) (Int.lt_irrefl _)
        · exact e
      · intro hz
        rcases this.2 (.inr hz) with e | e
        · subst e; exact absurd (b1 z hz) (Int.lt_irrefl _)
        · exact e
theorem info36 : (Try.prog.info? 36).map (fun i => (i.zero, i.size, i.bytes)) = some (some (.agg #[.int .i64 0, .int .i64 0, .int .i64 0, .slice none 0 0]), 4, 48) := by kernel_rfl
/-- How far the range over the map is: of the numbers seen, and of no others, the leases stand in the list. -/
structure RngI (T : LT) (es : Array MapEntry) (seen : Array Nat) (P : List (LV × Value)) : Prop where
  view : ∀ p ∈ P, p.1 ∈ T.view
  nd : (P.map (·.1.id)).Nodup
  all : ∀ x ∈ es.toList, seen.contains x.born = true → ∀ i, x.key = .int .i64 i → ∃ p ∈ P, p.1.id = i
  old : ∀ p ∈ P, ∃ x ∈ es.toList, seen.contains x.born = true ∧ x.key = .int .i64 p.1.id
set_option maxHeartbeats 8000000 in
theorem List_calls {n : Nat} (hn : n ≤ 1000) {w : World} {t : Nat} {R : List LV} {F : Nat → Prop} (h : Lea n w t R F) :
    Calls Try.prog 11 #[.pointer (some ⟨t, 0, none⟩)] w fun e w' => ListTo w w' R e := by
  obtain ⟨T, ⟨m, o, qv, hp, FL, a, hF⟩, hT, rfl⟩ := h
  have c0 := a.obj.cell 0 rfl
  have lt := a.obj.lt
  obtain ⟨es, clock, hb, hst, hk1, hk2⟩ := a.map
  have hrg := run_range_map (P := Try.prog) w 63 3 69 m es clock Try.underlying63 hb
  have hes : es.size ≤ 1000 := by
    have h1 := by
      classical
      exact nodup_le (es.toList.map (·.key)) (T.L.map fun x => Value.int .i64 x.1) hst.2.2 fun x hx => by
        obtain ⟨e, he, rfl⟩ := List.mem_map.1 hx
        obtain ⟨i, h1, _, h2⟩ := hk1 e he
        dsimp only at h2
        cases hl : getL T.L i with
        | none => rw [(a.gone i hl).1] at h2; cases h2
        | some l => exact List.mem_map.2 ⟨(i, l), getL_mem hl, by rw [h1]⟩
    have h2 := hT.ok.len
    unfold LT.view at h2
    simp only [List.length_map, Array.length_toList] at h1 h2
    omega
  have HA := Lib.hid a
  have HT := Lib.hid hT
  have HB := Lib.hid hb
  have HST := Lib.hid hst
  have HK1 := Lib.hid hk1
  have HK2 := Lib.hid hk2
  clear a hT hb hst hk1 hk2 hF
  go_enter Try.func11, Try.ntmps11
  go_wp2
  clear hrg
  go_loopg [3] es.size (fun gg s3 wr => ∃ (seen : Array Nat) (k0 : Nat) (v : Value) (P : List (LV × Value)), s3 = v ∧ gg = (leftOf es seen).size ∧ clock ≤ k0 ∧ P.length + gg ≤ es.size ∧ Hid (wr.heap[w.heap.size]? = some (.mapIter (some m) clock seen k0)) ∧
    Hid (Lst (w.heap.size + 1) wr v P) ∧ Hid (RngI T es seen P) ∧ Hid (Fr No w wr))
  case atStart => exact ⟨#[], clock, _, [], rfl, by rw [left_nil], Nat.le_refl _, by simp, Lib.hid (heap_alloc_new _ _), Lib.hid (Lst.nil _ _), Lib.hid ⟨by simp, by simp, by simp, by simp⟩, Lib.hid ((Fr.refl No w).alloc _)⟩
  case round =>
    obtain ⟨seen, k0, v, P, rfl, hgg, hk0, hol, HI, HS, HR, HF⟩ := hrel
    have hbr := HF.out.heap HB.out fun h => h
    have hnx := _root_.Go.run_next_at (P := Try.prog) wr 0 w.heap.size m clock k0 seen es clock HI.out hbr HST.out.1 hk0
    rcases hnx with ⟨h0, hrun⟩ | ⟨e, he, w2, hw2, hrun⟩
    · have hPl : P.length ≤ 1099511627 := by omega
      have hrok : ∀ p ∈ P, RecOk p := fun p hp' => by
        have h1 := HT.out.ok.num _ (HR.out.view p hp')
        obtain ⟨ka, kc, h2, _⟩ := (HS.out.keys p hp').1.shape
        exact ⟨h1.1, h1.2.1, _, _, _, h2⟩
      have cS := sortF_calls wr u3 P HS.out.sl hPl hrok HR.out.nd
      have CS := Lib.hid cS
      clear hbr cS hrok
      go_wp2_with (go_at_call 30; (with_reducible refine CS.out.mono ?_); rintro e w9 ⟨rfl, h9⟩; have H9 := Lib.hid h9; clear h9)
      go_ret
      obtain ⟨P', p1, p2, p3, p4⟩ := H9.out
      have hmem : ∀ x, x ∈ P'.map (·.1) ↔ x ∈ T.view := fun x => by
        rw [(p1.map (·.1)).mem_iff]
        constructor
        · intro hx
          obtain ⟨p, hp', rfl⟩ := List.mem_map.1 hx
          exact HR.out.view p hp'
        · intro hx
          obtain ⟨⟨i, l⟩, hm, rfl⟩ := List.mem_map.1 hx
          have hl := getL_of HT.out.rise hm
          obtain ⟨pp, hpp, _⟩ := HA.out.ls i l hl
          obtain ⟨y, hy, hy1, _⟩ := HK2.out i (.pointer (some ⟨pp, 0, none⟩)) (by rw [hpp]; rfl)
          obtain ⟨p, hp', hpi⟩ := HR.out.all y hy (left_done h0 y hy) i hy1
          have h1 := HT.out.ok.get (HR.out.view p hp')
          have h2 := HT.out.ok.get hx
          have e1 : (viewL T.now (i, l)).id = i := rfl
          rw [hpi] at h1
          rw [e1, h1] at h2
          exact List.mem_map.2 ⟨p, hp', Option.some.inj h2⟩
      have heq : P'.map (·.1) = T.view := rise_extF (f := LV.id) (by rw [List.pairwise_map]; exact p2) HT.out.ok.rise hmem
      have hl9 : Lst (w.heap.size + 1) w9 u3 P' := by
        refine ⟨p3, HS.out.new, fun p hp' => ?_, ?_⟩
        · have hk := HS.out.keys p (p1.mem_iff.1 hp')
          exact ⟨hk.1.fr p4 fun b hb hb2 => (hk.2 b hb).2 hb2, hk.2⟩
        · exact p1.symm.pairwise HS.out.apart fun {x y} hxy b hb hb2 => hxy b hb2 hb
      refine ⟨u3, P', rfl, hl9.low (Nat.le_succ _), heq, ⟨p4.os.trans HF.out.os, p4.tape.trans HF.out.tape, p4.output.trans HF.out.output, Nat.le_trans HF.out.size p4.size, fun b hb _ => ?_⟩⟩
      rw [p4.block b (Nat.lt_of_lt_of_le hb HF.out.size) fun e => by have := HS.out.new b e; omega]
      exact HF.out.block b hb fun h => h
    · obtain ⟨he1, he2⟩ := mem_left he
      obtain ⟨i, hkey, hwf, hval⟩ := HK1.out e he1
      have hsh := left_shrinks es seen e he
      have hlr : w.heap.size < wr.heap.size := heap_lt HI.out
      have hlw : w.heap.size < w2.heap.size := by rcases hw2 with rfl | rfl <;> exact hlr
      obtain ⟨hit, hsz3⟩ := iter_fr (b := w.heap.size) hw2 (.mapIter (some m) clock (seen.push e.born) clock)
      have hi3 := setB_at w2 w.heap.size (.mapIter (some m) clock (seen.push e.born) clock) hlw
      have hf3 : Fr No w (ChangeMaps.setBlock w2 w.heap.size (.mapIter (some m) clock (seen.push e.born) clock)) := HF.out.trans hit fun j hj e' => by
        have e'' : j = w.heap.size := e'
        omega
      have hb3 := hf3.heap HB.out fun h => h
      have hent := run_entry_at (P := Try.prog) _ w.heap.size m clock seen es clock e hi3 hb3 he1 HST.out.2.1
      have hs3 : Lst (w.heap.size + 1) (ChangeMaps.setBlock w2 w.heap.size (.mapIter (some m) clock (seen.push e.born) clock)) u3 P := HS.out.fr hit (fun b hb e' => by
        have e'' : b = w.heap.size := e'
        have := HS.out.new b hb
        omega) fun p hp' b hb e' => by
        have e'' : b = w.heap.size := e'
        have := ((HS.out.keys p hp').2 b hb).1
        omega
      obtain ⟨l, hl⟩ : ∃ l, getL T.L i = some l := by
        cases hl : getL T.L i with
        | none => rw [(HA.out.gone i hl).1] at hval; cases hval
        | some l => exact ⟨l, rfl⟩
      obtain ⟨p, hpp, _⟩ := HA.out.ls i l hl
      rw [hpp] at hval
      have hval2 : e.val = .pointer (some ⟨p, 0, none⟩) := (Option.some.inj hval).symm
      rw [hkey] at hrun
      rw [hkey, hval2] at hent
      have hri : ∀ kv : Value, RngI T es (seen.push e.born) (P ++ [(viewL T.now (i, l), kv)]) := fun kv => by
        refine ⟨fun q hq => ?_, ?_, fun x hx hc j hj => ?_, fun q hq => ?_⟩
        · rcases List.mem_append.1 hq with hq | hq
          · exact HR.out.view q hq
          · rw [List.mem_singleton] at hq; subst hq
            exact List.mem_map_of_mem (getL_mem hl)
        · rw [List.map_append, List.nodup_append]
          refine ⟨HR.out.nd, by simp, fun a ha b hb hab => ?_⟩
          obtain ⟨q, hq, rfl⟩ := List.mem_map.1 ha
          simp only [List.map_cons, List.map_nil, List.mem_singleton] at hb
          obtain ⟨x, hx, hc, hxk⟩ := HR.out.old q hq
          have hbi : b = i := hb
          have : x = e := key_uniq HST.out.2.2 hx he1 (by rw [hxk, hkey, hab, hbi])
          rw [this] at hc
          rw [he2] at hc
          cases hc
        · rcases seen_push HST.out.2.1 he1 hx hc with h | h
          · obtain ⟨q, hq, hqi⟩ := HR.out.all x hx h j hj
            exact ⟨q, List.mem_append_left _ hq, hqi⟩
          · subst h
            rw [hkey] at hj
            cases hj
            exact ⟨_, List.mem_append_right _ (List.mem_singleton_self _), rfl⟩
        · rcases List.mem_append.1 hq with hq | hq
          · obtain ⟨x, hx, hc, hxk⟩ := HR.out.old q hq
            exact ⟨x, hx, seen_old hc, hxk⟩
          · rw [List.mem_singleton] at hq; subst hq
            exact ⟨e, he1, seen_new, hkey⟩
      have aW := HA.out.fr hf3 fun _ _ h => h
      have hsw := show_at hn aW HT.out i p l hl hpp
      have lt3 := Nat.lt_of_lt_of_le lt hf3.size
      generalize hW3 : ChangeMaps.setBlock w2 w.heap.size (.mapIter (some m) clock (seen.push e.born) clock) = W3 at *
      generalize hgs : (leftOf es (seen.push e.born)).size = gs at *
      have HGS := Lib.hid hgs
      have HSW := Lib.hid hsw
      have HI3 := Lib.hid hi3
      have HF3 := Lib.hid hf3
      have HS3 := Lib.hid hs3
      have HRI := Lib.hid hri
      have HSZ := Lib.hid hsz3
      have HSH := Lib.hid hsh
      obtain ⟨i0, hi0, hz0, hz1, hz2⟩ := info_parts info36
      clear hri aW hsw hgs hi3 hf3 hs3 hsz3 hb3 hit hbr hval hval2 hkey hwf hl hpp he he1 he2 hw2 hlw hW3 hsh
      generalize viewL T.now (i, l) = x at *
      go_wp2_with (first
        | (go_at_call 29; (with_reducible refine HSW.out.mono ?_); rintro e9 w4 ⟨kv, rfl, hfs, hf4⟩
           obtain ⟨ka, kc, rfl, hc1, hc2, hc3⟩ := hfs.1.shape
           have hs4 := HS3.out.fr0 hf4
           have hi4 := hf4.heap HI3.out fun h => h
           have hf04 := HF3.out.trans0 hf4
           have hw34 := hf4.size
           have hnew := cells_new w4 [.int .i64 x.id, .int .i64 x.ticks, .int .i64 x.left, .slice ka x.keys.length kc] 36 (0, 0)
           have HFS := Lib.hid hfs
           have HS4 := Lib.hid hs4
           have HI4 := Lib.hid hi4
           have HF04 := Lib.hid hf04
           unfold lvV
           clear hfs hf4 hc1 hc2 hc3 hs4 hi4 hf04)
        | (at_builtin; go_loud (refine wpList_append_f rfl _ _ 27 rfl 36 i0 _ 4 48 Try.underlying27 hi0 hz0 hz1 hz2 rfl (by decide) _ P rfl (HS4.out.sl.alloc _) w4.heap.size 1 (x, .slice ka x.keys.length kc) rfl hnew rfl ?c1 ?c2 ?c3 ?_)))
      case c1 => intro u hu; simp [lvC] at hu; rcases hu with h | h | h | h <;> (rw [h]; rfl)
      case c2 => unfold maxLen; omega
      case c3 => omega
      intro g7 o7 cap7 w6 hs6 hg6 hb6 hlt6
      have hf6 : Fr (fun b => u3.ownBlock = some b) w4 w6 := ((Fr.refl _ w4).alloc _).trans ((Fr.refl _ _).grown hg6 fun k hk => .inl hk) fun _ _ h => h
      have hg7 : u3.ownBlock = some g7 ∨ w4.heap.size < g7 := by
        rcases hb6 with h | h
        · exact .inl h
        · right
          have h' : g7 = w4.heap.size + 1 := by simpa using h
          omega
      have hkb : ∀ b, (Value.slice ka x.keys.length kc).ownBlock = some b → w.heap.size + 1 ≤ b ∧ W3.heap.size ≤ b ∧ b < w4.heap.size := fun b hb => by
        have h1 := HFS.out.2 b hb
        have h2 := HFS.out.1.lt b hb
        have h3 := HSZ.out
        exact ⟨by omega, h1, h2⟩
      have hi6 := hf6.heap HI4.out fun h => by have := HS4.out.new _ h; omega
      have hF6 : Fr No w w6 := HF04.out.trans hf6 fun b hb h => by have := HS4.out.new b h; omega
      have hL6 : Lst (w.heap.size + 1) w6 (.slice (some ⟨g7, o7, none⟩) (P.length + 1) cap7) (P ++ [(x, .slice ka x.keys.length kc)]) := by
        have hown : ∀ b, (Value.slice (some ⟨g7, o7, none⟩) (P.length + 1) cap7).ownBlock = some b → b = g7 := fun b hb => by simpa [Value.ownBlock] using hb.symm
        refine ⟨by unfold SlF at hs6 ⊢; simpa using hs6, fun b hb => ?_, fun q hq => ?_, ?_⟩
        · rw [hown b hb]
          rcases hg7 with h | h
          · exact HS4.out.new _ h
          · have := HF04.out.size; omega
        · rcases List.mem_append.1 hq with hq | hq
          · have hk := HS4.out.keys q hq
            refine ⟨hk.1.fr hf6 fun b hb h => (hk.2 b hb).2 h, fun b hb => ⟨(hk.2 b hb).1, fun h => ?_⟩⟩
            rw [hown b h] at hb
            rcases hg7 with h2 | h2
            · exact (hk.2 _ hb).2 h2
            · have := hk.1.lt _ hb; omega
          · rw [List.mem_singleton] at hq
            subst hq
            dsimp only
            refine ⟨HFS.out.1.fr hf6 fun b hb h => ?_, fun b hb => ⟨(hkb b hb).1, fun h => ?_⟩⟩
            · have h1 := (hkb b hb).2.1
              have h2 := HS3.out.sl.lt b h
              omega
            · rw [hown b h] at hb
              have h1 := hkb _ hb
              rcases hg7 with h2 | h2
              · have h3 := HS3.out.sl.lt _ h2; omega
              · omega
        · rw [List.pairwise_append]
          refine ⟨HS4.out.apart, by simp, fun q hq r hr b hb hb2 => ?_⟩
          rw [List.mem_singleton] at hr
          subst hr
          have h1 := (hkb b hb2).2.1
          have h2 := (HS3.out.keys q hq).1.lt b hb
          omega
      have HI6 := Lib.hid hi6
      have HF6 := Lib.hid hF6
      have HL6 := Lib.hid hL6
      clear hf6 hg7 hkb hi6 hF6 hL6 hs6 hg6 hb6 hnew
      go_wp2
      go_roundg gs
      case rel => exact ⟨seen.push e.born, clock, _, _, rfl, HGS.out.symm, Nat.le_refl _, by have := HSH.out; simp; omega, HI6, HL6, Lib.hid (HRI.out _), HF6⟩
      case measure => have := HSH.out; omega
end Go.Proofs.Ytlomeohcgjgpjaa
