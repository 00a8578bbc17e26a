/- The store's goneBy: which revisions of a history are no longer seen from a revision on, in whatever order the map gives them. The condition: the history is small. -/
import Derived.Test.YthljnnjpmdgkoaaComp
import Derived.Test.YthljnnjpmdgkoaaHad
import Derived.Test.YthljnnjpmdgkoaaNames
import Derived.Maps.RangeRun
namespace Go.Proofs.Ythljnnjpmdgkoaa
open Go Go.Proofs Go.RowKit
set_option maxRecDepth 100000

/-- Is what a history has at a revision gone? -/
def goneK (H : Hist) (rev r : Int) : Prop := H.kvs r ≠ none ∧ r ≤ rev ∧ r ≠ (atK H.gens rev).1.2.1

theorem nodup_le {α : Type} [DecidableEq α] : ∀ (a b : List α), a.Nodup → (∀ x ∈ a, x ∈ b) → a.length ≤ b.length
  | [], _, _, _ => by simp
  | x :: a, b, hn, hs => by
    have hx := hs x (by simp)
    obtain ⟨h1, h2⟩ := List.nodup_cons.1 hn
    have h3 := nodup_le a (b.erase x) h2 fun y hy => (List.mem_erase_of_ne (fun e => h1 (by rw [← e]; exact hy))).2 (hs y (by simp [hy]))
    have h4 := List.length_erase_of_mem hx
    have h5 : 0 < b.length := List.length_pos_of_mem hx
    simp only [List.length_cons]
    omega

theorem left_nil (es : Array MapEntry) : (leftOf es #[]).size = es.size := by
  unfold leftOf
  rw [Array.filter_eq_self.2 (fun x _ => by simp)]
theorem set_iter_fr {W wr w2 : World} (hF : Fr No W wr) (hw2 : w2 = wr ∨ w2 = wr.drew) (o : Obj) : Fr No W (ChangeMaps.setBlock w2 W.heap.size o) := by
  have hF2 : Fr No W w2 := by 
    rcases hw2 with rfl | rfl
    · exact hF
    · exact hF.drew
  exact ⟨hF2.os, hF2.tape, hF2.output, by have := hF2.size; simpa [ChangeMaps.setBlock] using this, fun k hk hS => (setB_other w2 _ k _ (by omega)).trans (hF2.block k hk hS)⟩

set_option maxHeartbeats 4000000 in
theorem goneBy_calls (w : World) (h : Nat) (H : Hist) (rev : Int) (F : Nat → Prop) (hh : HistAt w h H F) (hK : Fits H.gens) (hl : ∃ l : List Int, l.length ≤ 1099511627 ∧ ∀ r, H.kvs r ≠ none → r ∈ l) :
    Calls Try.prog 87 #[.pointer (some ⟨h, 0, none⟩), .int .i64 rev] w fun e w' => ∃ v out, e = .returned v ∧ SlF w' 3 1 int1 v out ∧ Fr No w w' ∧ (∀ b, v.ownBlock = some b → w.heap.size ≤ b) ∧ (∀ r ∈ out, goneK H rev r) := by
  obtain ⟨g, m, FK, a, hF⟩ := hh
  have hat := fun W (hW : Fr No w W) => At_calls W g H.gens H.last rev FK (a.key.fr hW fun _ _ h => h) hK
  unfold seenTuple seenV at hat
  have c0 := a.obj.cell 0 rfl
  have c1 := a.obj.cell 1 rfl
  have lh := a.obj.lt
  obtain ⟨es, clock, hb, hst, hk1, hk2⟩ := a.map
  have hgk : ∀ r, goneK H rev r ↔ H.kvs r ≠ none ∧ r ≤ rev ∧ r ≠ (atK H.gens rev).1.2.1 := fun r => Iff.rfl
  have hes : es.size ≤ 1099511627 := by
    obtain ⟨l, hl1, hl2⟩ := hl
    have := by
      classical
      exact nodup_le (es.toList.map (·.key)) (l.map (Value.int .i64)) hst.2.2 fun x hx => by
        obtain ⟨e, he, rfl⟩ := List.mem_map.1 hx
        obtain ⟨n, h1, _, h2⟩ := hk1 e he
        exact List.mem_map.2 ⟨n, hl2 n (fun h0 => by simp [h0] at h2), h1.symm⟩
    simp only [List.length_map, Array.length_toList] at this
    omega
  generalize atK H.gens rev = sn at *
  obtain ⟨⟨q1, q2, q3⟩, qb⟩ := sn
  dsimp only at hat hgk
  have HAT := Lib.hid hat
  have HGK := Lib.hid hgk
  have HB := Lib.hid hb
  have HST := Lib.hid hst
  have HK1 := Lib.hid hk1
  clear hat hgk a hF hK hb hst hk1 hk2 hl
  go_enter Try.func87, Try.ntmps87
  go_upto_region 3 with (go_at_call 109; refine (HAT.out _ (Fr.refl No w)).mono ?_; rintro e w1 ⟨rfl, hf1⟩)
  have hbs : ((w1.alloc (Obj.cells #[.int .i64 q1, .int .i64 q2, .int .i64 q3] 182))).heap[w1.heap.size]? = some (.cells #[.int .i64 q1, .int .i64 q2, .int .i64 q3] 182 (0, 0)) := alloc_at _ _ _ rfl
  have hfW : Fr No w (w1.alloc (Obj.cells #[.int .i64 q1, .int .i64 q2, .int .i64 q3] 182)) := hf1.alloc _
  have hszw : w.heap.size ≤ w1.heap.size := hf1.size
  generalize w1.alloc (Obj.cells #[.int .i64 q1, .int .i64 q2, .int .i64 q3] 182) = W at hbs hfW ⊢
  have c1W := hfW.cell0 c1
  have lhW : h < W.heap.size := Nat.lt_of_lt_of_le lh hfW.size
  have hbW := hfW.heap HB.out id
  have hrg := run_range_map (P := Try.prog) W 144 3 57 m es clock Try.underlying144 hbW
  have HBS := Lib.hid hbs
  have HFW := Lib.hid hfW
  have lbs := heap_lt hbs
  clear hbs hfW hbW hf1 c0 c1
  go_wp2
  go_loopg [5] es.size (fun gg s5 wr => ∃ (seen : Array Nat) (k0 : Nat) (v : Value) (out : List Int), s5 = v ∧ gg = (leftOf es seen).size ∧ clock ≤ k0 ∧ out.length + gg ≤ es.size ∧ Hid (wr.heap[W.heap.size]? = some (.mapIter (some m) clock seen k0)) ∧
    Hid (SlF wr 3 1 int1 v out) ∧ Hid (∀ b, v.ownBlock = some b → W.heap.size < b) ∧ Hid (∀ r ∈ out, goneK H rev r) ∧ Hid (Fr No W wr))
  case atStart => exact ⟨#[], clock, _, [], rfl, by rw [left_nil], Nat.le_refl _, by simp, Lib.hid (heap_alloc_new _ _), Lib.hid (SlF.nil _ _ _ _), Lib.hid (by simp [Value.ownBlock]), Lib.hid (by simp), Lib.hid ((Fr.refl No W).alloc _)⟩
  case round =>
    obtain ⟨seen, k0, v, out, rfl, hgg, hk0, hol, HI, HS, HO, HG, HF⟩ := hrel
    have hbr := HF.out.heap (HFW.out.heap HB.out id) id
    have hnx := _root_.Go.run_next_at (P := Try.prog) wr 0 W.heap.size m clock k0 seen es clock HI.out hbr HST.out.1 hk0
    rcases hnx with ⟨h0, hrun⟩ | ⟨e, he, w2, hw2, hrun⟩
    · clear hbr
      go_wp2
      go_ret
      exact ⟨_, out, rfl, HS.out, HFW.out.trans0 HF.out, fun b hb => by have := HO.out b hb; have := HFW.out.size; omega, HG.out⟩
    · obtain ⟨he1, he2⟩ := mem_left he
      obtain ⟨n, hkey, hwf, hval⟩ := HK1.out e he1
      have hsh := left_shrinks es seen e he
      have hlr : W.heap.size < wr.heap.size := heap_lt HI.out
      have hlw : W.heap.size < w2.heap.size := by rcases hw2 with rfl | rfl <;> exact hlr
      have hf3 := set_iter_fr HF.out hw2 (.mapIter (some m) clock (seen.push e.born) clock)
      have hi3 := setB_at w2 W.heap.size (.mapIter (some m) clock (seen.push e.born) clock) hlw
      have hso : ∀ k, k ≠ W.heap.size → (ChangeMaps.setBlock w2 W.heap.size (.mapIter (some m) clock (seen.push e.born) clock)).heap[k]? = wr.heap[k]? := fun k hk => (setB_other w2 _ k _ hk).trans (by rcases hw2 with rfl | rfl <;> rfl)
      have hsz3 : (ChangeMaps.setBlock w2 W.heap.size (.mapIter (some m) clock (seen.push e.born) clock)).heap.size = wr.heap.size := by rcases hw2 with rfl | rfl <;> simp [ChangeMaps.setBlock]
      have hfr3 : Fr (fun b => b = W.heap.size) wr (ChangeMaps.setBlock w2 W.heap.size (.mapIter (some m) clock (seen.push e.born) clock)) := by
        rcases hw2 with rfl | rfl
        · exact ⟨rfl, rfl, rfl, Nat.le_of_eq hsz3.symm, fun k _ hk => hso k hk⟩
        · exact ⟨rfl, rfl, rfl, Nat.le_of_eq hsz3.symm, fun k _ hk => hso k hk⟩
      have hb3 := hf3.heap (HFW.out.heap HB.out id) id
      have hent := run_entry_at (P := Try.prog) _ W.heap.size m clock seen es clock e hi3 hb3 he1 HST.out.2.1
      have hs3 : SlF (ChangeMaps.setBlock w2 W.heap.size (.mapIter (some m) clock (seen.push e.born) clock)) 3 1 int1 u5 out := HS.out.fr hfr3 fun b hb e' => by
        have e'' : b = W.heap.size := e'
        have := HO.out b hb
        omega
      have hbs3 := hf3.heap HBS.out id
      rw [hkey] at hrun hent
      have hnn : H.kvs n ≠ none := fun h0 => by simp [h0] at hval
      generalize ChangeMaps.setBlock w2 W.heap.size (.mapIter (some m) clock (seen.push e.born) clock) = W3 at *
      have y1 : W3.cell? ⟨w1.heap.size, 1, none⟩ = some (.int .i64 q2) := by simp [World.cell?, hbs3]
      have ly := heap_lt hbs3
      have HF3 := Lib.hid hf3
      have HI3 := Lib.hid hi3
      have HS3 := Lib.hid hs3
      have HSH := Lib.hid hsh
      have HNN := Lib.hid hnn
      have hW3 : W.heap.size ≤ W3.heap.size := hf3.size
      obtain ⟨i0, hi0, hz0, hz1, hz2⟩ := info_parts info3
      have hol2 : out.length ≤ 1099511627 := by omega
      generalize hgs : (leftOf es (seen.push e.born)).size = gs at *
      have HGS := Lib.hid hgs
      clear hf3 hi3 hs3 hsh hnn hbs3 hb3 hso hsz3 hfr3 hbr he he1 he2 hkey hwf hval hw2 hlw hlr hgs
      by_cases t1 : n ≤ rev
      · by_cases t2 : n = q2
        · subst t2
          go_wp2
          go_roundg gs
          case rel => exact ⟨seen.push e.born, clock, u5, out, rfl, HGS.out.symm, Nat.le_refl _, by have := HSH.out; omega, HI3, HS3, HO, HG, HF3⟩
          case measure => have := HSH.out; omega
        · have t2' : (n != q2) = true := by simpa using t2
          have hnew := cells_new W3 [.int .i64 n] 3 (0, 0)
          go_wp2_with (at_builtin; go_loud (refine wpList_append_f rfl _ _ 149 rfl 3 i0 _ 1 8 Try.underlying149 hi0 hz0 hz1 hz2 rfl (by decide) _ out rfl (HS3.out.alloc _) W3.heap.size 1 n rfl hnew rfl ?c1 ?c2 ?c3 ?_))
          case c1 => intro u hu; simp [int1] at hu; subst hu; rfl
          case c2 => unfold maxLen; omega
          case c3 => omega
          intro g7 o7 cap7 w6 hs6 hg6 hb6 hlt6
          have hf6 : Fr (fun b => u5.ownBlock = some b) (W3.alloc (Obj.cells [.int .i64 n].toArray 3)) w6 := (Fr.refl _ _).grown hg6 fun k hk => .inl hk
          have hf36 : Fr (fun b => u5.ownBlock = some b) W3 w6 := ((Fr.refl _ W3).alloc _).trans hf6 fun _ _ h => h
          have hi6 := hf36.heap HI3.out (fun h => by have := HO.out _ h; omega)
          have hF6 : Fr No W w6 := HF3.out.trans hf36 fun b hb h => by have := HO.out b h; omega
          have HI6 := Lib.hid hi6
          have HF6 := Lib.hid hF6
          have HS6 := Lib.hid hs6
          have hgn : goneK H rev n := (HGK.out n).2 ⟨HNN.out, t1, t2⟩
          have HGN := Lib.hid hgn
          have ho6 : ∀ b, (Value.slice (some ⟨g7, o7, none⟩) (out.length + 1) cap7).ownBlock = some b → W.heap.size < b := fun b hb => by
            obtain rfl : g7 = b := by simpa [Value.ownBlock] using hb
            rcases hb6 with h | h
            · exact HO.out _ h
            · have h' : g7 = W3.heap.size + 1 := by simpa using h
              omega
          have HO6 := Lib.hid ho6
          clear hf6 hf36 hi6 hF6 hs6 hgn ho6 hg6 hb6
          go_wp2
          go_roundg gs
          case rel => exact ⟨seen.push e.born, clock, _, out ++ [n], rfl, HGS.out.symm, Nat.le_refl _, by have := HSH.out; simp; omega, HI6, Lib.hid (by simpa using HS6.out), HO6, Lib.hid (fun r hr => by
            rcases List.mem_append.1 hr with h | h
            · exact HG.out r h
            · rw [List.mem_singleton.1 h]; exact HGN.out), HF6⟩
          case measure => have := HSH.out; omega
      · have t1' : ¬ n ≤ rev := t1
        go_wp2
        go_roundg gs
        case rel => exact ⟨seen.push e.born, clock, u5, out, rfl, HGS.out.symm, Nat.le_refl _, by have := HSH.out; omega, HI3, HS3, HO, HG, HF3⟩
        case measure => have := HSH.out; omega
end Go.Proofs.Ythljnnjpmdgkoaa
