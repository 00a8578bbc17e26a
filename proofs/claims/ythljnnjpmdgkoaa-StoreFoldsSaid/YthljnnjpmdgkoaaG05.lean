/- The store's form in memory, changed part by part (its own cells, the tree, the map, a history, the events). Plain facts; no program is run. The store's 'had' and 'lives': what a key had at a revision; nothing is changed. The condition: histories are small (HistOk). -/
import Derived.Test.YthljnnjpmdgkoaaG04
import Derived.Deep.RegionHeld
namespace Go.Proofs.Ythljnnjpmdgkoaa
open Go Go.Proofs Go.RowKit
set_option maxRecDepth 100000

section
variable {TA : TreeRel} {N : Nat} (hT : TreeOk TA N) {w w' : World} {s t p : Nat} {ev : Value} {hp : Int → Option Nat} {FT : Nat → Prop} {FH : Int → Nat → Prop} {S : St}
include hT
theorem StoreR.setObj (a : StoreR TA w s t p ev hp FT FH S) (hf : Fr (fun b => b = s) w w') (n' r' m' : Int) (ho : Has w' s [.pointer (some ⟨t, 0, none⟩), .map (some p), .int .i64 n', .int .i64 r', .int .i64 m', ev]) :
    StoreR TA w' s t p ev hp FT FH { S with next := n', rev := r', mark := m' } where
  obj := ho
  tree := hT.fr a.tree hf fun b hb e => a.ds.1 (e ▸ hb)
  map := a.map.fr hf fun e => a.map.apart a.obj e
  events := a.events.fr hf fun b hb e => a.ds.2.1 (e ▸ hb)
  hist i H hi := by
    obtain ⟨h, h1, h2⟩ := a.hist i H hi
    exact ⟨h, h1, h2.fr hf fun b hb e => a.ds.2.2 i (e ▸ hb)⟩
  gone := a.gone
  ds := a.ds
  dp := a.dp
  dt := a.dt
  de := a.de
  dh := a.dh

theorem StoreR.setTree (a : StoreR TA w s t p ev hp FT FH S) (hf : Fr FT w w') {T' : Pairs} {FT' : Nat → Prop} (ht : TA w' t T' FT') (hn : ∀ b, FT' b → FT b ∨ w.heap.size ≤ b) :
    StoreR TA w' s t p ev hp FT' FH { S with T := T' } where
  obj := a.obj.fr hf a.ds.1
  tree := ht
  map := a.map.fr hf a.dp.1
  events := a.events.fr hf fun b hb e => (a.dt b e).1 hb
  hist i H hi := by
    obtain ⟨h, h1, h2⟩ := a.hist i H hi
    exact ⟨h, h1, h2.fr hf fun b hb e => (a.dt b e).2 i hb⟩
  gone := a.gone
  ds := ⟨fun e => by rcases hn _ e with h | h
                     · exact a.ds.1 h
                     · have := a.obj.lt; omega, a.ds.2⟩
  dp := ⟨fun e => by rcases hn _ e with h | h
                     · exact a.dp.1 h
                     · have := a.map.lt; omega, a.dp.2⟩
  dt b hb := by
    rcases hn _ hb with h | h
    · exact a.dt b h
    · exact ⟨fun e => by have := a.events.lt b e; omega, fun i hi => by have := a.lt hT b (.inr (.inr (.inr (.inr ⟨i, hi⟩)))); omega⟩
  de := a.de
  dh := a.dh

theorem StoreR.setHist (a : StoreR TA w s t p ev hp FT FH S) {id : Int} {h : Nat} {H' : Hist} {F' : Nat → Prop} (hid : hp id = some h) (hf : Fr (FH id) w w') (hh : HistAt w' h H' F') (hn : ∀ b, F' b → FH id b ∨ w.heap.size ≤ b) :
    StoreR TA w' s t p ev hp FT (fun i => if i = id then F' else FH i) { S with past := fun i => if i = id then some H' else S.past i } where
  obj := a.obj.fr hf (a.ds.2.2 id)
  tree := hT.fr a.tree hf fun b hb e => (a.dt b hb).2 id e
  map := a.map.fr hf (a.dp.2.2 id)
  events := a.events.fr hf fun b hb e => a.de b hb id e
  hist i H hi := by
    dsimp only at hi
    by_cases hi' : i = id
    · subst hi'
      rw [if_pos rfl] at hi
      cases hi
      exact ⟨h, hid, by rw [if_pos rfl]; exact hh⟩
    · rw [if_neg hi'] at hi
      obtain ⟨h2, h3, h4⟩ := a.hist i H hi
      exact ⟨h2, h3, by rw [if_neg hi']; exact h4.fr hf fun b hb e => hi' (a.dh i id b hb e)⟩
  gone i hi := by
    dsimp only at hi
    by_cases hi' : i = id
    · rw [if_pos hi'] at hi; cases hi
    · rw [if_neg hi'] at hi
      exact ⟨(a.gone i hi).1, by rw [if_neg hi']; exact (a.gone i hi).2⟩
  ds := ⟨a.ds.1, a.ds.2.1, fun i e => by
    by_cases hi' : i = id
    · rw [if_pos hi'] at e
      rcases hn _ e with h | h
      · exact a.ds.2.2 _ h
      · have := a.obj.lt; omega
    · rw [if_neg hi'] at e; exact a.ds.2.2 i e⟩
  dp := ⟨a.dp.1, a.dp.2.1, fun i e => by
    by_cases hi' : i = id
    · rw [if_pos hi'] at e
      rcases hn _ e with h | h
      · exact a.dp.2.2 _ h
      · have := a.map.lt; omega
    · rw [if_neg hi'] at e; exact a.dp.2.2 i e⟩
  dt b hb := ⟨(a.dt b hb).1, fun i e => by
    by_cases hi' : i = id
    · rw [if_pos hi'] at e
      rcases hn _ e with h | h
      · exact (a.dt b hb).2 _ h
      · have := hT.lt a.tree b hb; omega
    · rw [if_neg hi'] at e; exact (a.dt b hb).2 i e⟩
  de b hb i e := by
    by_cases hi' : i = id
    · rw [if_pos hi'] at e
      rcases hn _ e with h | h
      · exact a.de b hb _ h
      · have := a.events.lt b hb; omega
    · rw [if_neg hi'] at e; exact a.de b hb i e
  dh i j b hi hj := by
    by_cases hi' : i = id <;> by_cases hj' : j = id
    · rw [hi', hj']
    · rw [if_pos hi'] at hi; rw [if_neg hj'] at hj
      rcases hn _ hi with h | h
      · rw [hi']; exact a.dh id j b h hj
      · have := a.lt hT b (.inr (.inr (.inr (.inr ⟨j, hj⟩)))); omega
    · rw [if_neg hi'] at hi; rw [if_pos hj'] at hj
      rcases hn _ hj with h | h
      · rw [hj']; exact a.dh i id b hi h
      · have := a.lt hT b (.inr (.inr (.inr (.inr ⟨i, hi⟩)))); omega
    · rw [if_neg hi'] at hi; rw [if_neg hj'] at hj
      exact a.dh i j b hi hj

/-- A history that is new: its blocks are at B or behind, and all the store's are ahead of B. -/
theorem StoreR.addHist (a : StoreR TA w s t p ev hp FT FH S) {id : Int} {h B : Nat} {H' : Hist} {F' : Nat → Prop} (hid : S.past id = none) (hf : Fr (fun b => b = p) w w')
    (hm : MapAt w' p fun i => if i = id then some (.pointer (some ⟨h, 0, none⟩)) else (hp i).map fun h => .pointer (some ⟨h, 0, none⟩))
    (hB : ∀ b, storeF s p ev FT FH b → b < B) (hh : HistAt w' h H' F') (hn : ∀ b, F' b → B ≤ b) :
    StoreR TA w' s t p ev (fun i => if i = id then some h else hp i) FT (fun i => if i = id then F' else FH i) { S with past := fun i => if i = id then some H' else S.past i } where
  obj := a.obj.fr hf fun e => a.map.apart a.obj e.symm
  tree := hT.fr a.tree hf fun b hb e => a.dp.1 (e ▸ hb)
  map := by
    refine cast (congrArg (MapAt w' p) ?_) hm
    funext i
    by_cases hi : i = id <;> simp [hi]
  events := a.events.fr hf fun b hb e => a.dp.2.1 (e ▸ hb)
  hist i H hi := by
    dsimp only at hi
    by_cases hi' : i = id
    · subst hi'
      rw [if_pos rfl] at hi
      cases hi
      exact ⟨h, if_pos rfl, by rw [if_pos rfl]; exact hh⟩
    · rw [if_neg hi'] at hi
      obtain ⟨h2, h3, h4⟩ := a.hist i H hi
      exact ⟨h2, by rw [if_neg hi']; exact h3, by rw [if_neg hi']; exact h4.fr hf fun b hb e => a.dp.2.2 i (e ▸ hb)⟩
  gone i hi := by
    dsimp only at hi
    by_cases hi' : i = id
    · rw [if_pos hi'] at hi; cases hi
    · rw [if_neg hi'] at hi
      exact ⟨by rw [if_neg hi']; exact (a.gone i hi).1, by rw [if_neg hi']; exact (a.gone i hi).2⟩
  ds := ⟨a.ds.1, a.ds.2.1, fun i e => by
    by_cases hi' : i = id
    · rw [if_pos hi'] at e
      have := hn _ e; have := hB s (.inl rfl); omega
    · rw [if_neg hi'] at e; exact a.ds.2.2 i e⟩
  dp := ⟨a.dp.1, a.dp.2.1, fun i e => by
    by_cases hi' : i = id
    · rw [if_pos hi'] at e
      have := hn _ e; have := hB p (.inr (.inl rfl)); omega
    · rw [if_neg hi'] at e; exact a.dp.2.2 i e⟩
  dt b hb := ⟨(a.dt b hb).1, fun i e => by
    by_cases hi' : i = id
    · rw [if_pos hi'] at e
      have := hn _ e; have := hB b (.inr (.inr (.inl hb))); omega
    · rw [if_neg hi'] at e; exact (a.dt b hb).2 i e⟩
  de b hb i e := by
    by_cases hi' : i = id
    · rw [if_pos hi'] at e
      have := hn _ e; have := hB b (.inr (.inr (.inr (.inl hb)))); omega
    · rw [if_neg hi'] at e; exact a.de b hb i e
  dh i j b hi hj := by
    by_cases hi' : i = id <;> by_cases hj' : j = id
    · rw [hi', hj']
    · rw [if_pos hi'] at hi; rw [if_neg hj'] at hj
      have := hn _ hi; have := hB b (.inr (.inr (.inr (.inr ⟨j, hj⟩)))); omega
    · rw [if_neg hi'] at hi; rw [if_pos hj'] at hj
      have := hn _ hj; have := hB b (.inr (.inr (.inr (.inr ⟨i, hi⟩)))); omega
    · rw [if_neg hi'] at hi; rw [if_neg hj'] at hj
      exact a.dh i j b hi hj

theorem StoreR.setEvents (a : StoreR TA w s t p ev hp FT FH S) {ev' : Value} {E' : List Ev} (hf : Fr (fun b => b = s ∨ ev.ownBlock = some b) w w')
    (ho : Has w' s [.pointer (some ⟨t, 0, none⟩), .map (some p), .int .i64 S.next, .int .i64 S.rev, .int .i64 S.mark, ev']) (he : SlF w' 73 13 evC ev' E') (hn : ∀ b, ev'.ownBlock = some b → ev.ownBlock = some b ∨ w.heap.size ≤ b) :
    StoreR TA w' s t p ev' hp FT FH { S with events := E' } where
  obj := ho
  tree := hT.fr a.tree hf fun b hb e => by
    rcases e with e | e
    · exact a.ds.1 (e ▸ hb)
    · exact (a.dt b hb).1 e
  map := a.map.fr hf fun e => by
    rcases e with e | e
    · exact a.map.apart a.obj e
    · exact a.dp.2.1 e
  events := he
  hist i H hi := by
    obtain ⟨h, h1, h2⟩ := a.hist i H hi
    refine ⟨h, h1, h2.fr hf fun b hb e => ?_⟩
    rcases e with e | e
    · exact a.ds.2.2 i (e ▸ hb)
    · exact a.de b e i hb
  gone := a.gone
  ds := ⟨a.ds.1, fun e => by rcases hn _ e with h | h
                             · exact a.ds.2.1 h
                             · have := a.obj.lt; omega, a.ds.2.2⟩
  dp := ⟨a.dp.1, fun e => by rcases hn _ e with h | h
                             · exact a.dp.2.1 h
                             · have := a.map.lt; omega, a.dp.2.2⟩
  dt b hb := ⟨fun e => by rcases hn _ e with h | h
                          · exact (a.dt b hb).1 h
                          · have := hT.lt a.tree b hb; omega, (a.dt b hb).2⟩
  de b hb i hi := by
    rcases hn _ hb with h | h
    · exact a.de b h i hi
    · have := a.lt hT b (.inr (.inr (.inr (.inr ⟨i, hi⟩)))); omega
  dh := a.dh
end
end Go.Proofs.Ythljnnjpmdgkoaa

namespace Go.Proofs.Ythljnnjpmdgkoaa
open Go Go.Proofs Go.RowKit
set_option maxRecDepth 100000

theorem had_calls {TA : TreeRel} {N : Nat} (_ : TreeOk TA N) {n : Nat} (hn : n ≤ 1099511627) (w : World) (s : Nat) (S : St) (F : Nat → Prop) (hS : StoreAt TA w s S F) (hok : StOk n S) (at_ rev : Int) (H : Hist) (hH : S.past at_ = some H) :
    Calls Try.prog 71 #[.pointer (some ⟨s, 0, none⟩), .int .i64 at_, .int .i64 rev] w fun e w' => e = .returned (kvTuple (hadH H rev)) ∧ Fr No w w' := by
  obtain ⟨t, p, ev, hp, FT, FH, a, hF⟩ := hS
  obtain ⟨h, hh, g, m, FK, b, hFH⟩ := a.hist _ _ hH
  have hHok := (hok.hist _ _ hH).1
  have hids := hok.ids _ _ hH
  have hnx := hok.next
  have hwf : (Lit.int .i64 at_).wf = true := wf64 (by omega) (by omega)
  have hwf2 := hHok.wf rev
  have hfit := hHok.fits hn
  have hat := fun W hk => At_calls W g H.gens H.last rev FK hk hfit
  have hpl : ((hp at_).map fun h => Value.pointer (some ⟨h, 0, none⟩)).getD (.pointer none) = .pointer (some ⟨h, 0, none⟩) := by rw [hh]; rfl
  have hkl : ((H.kvs (atK H.gens rev).1.2.1).map kvV).getD (kvV kv0) = kvV (hadH H rev).1 := by unfold hadH; cases H.kvs (atK H.gens rev).1.2.1 <;> rfl
  have c1 := a.obj.cell 1 rfl
  have h0 := b.obj.cell 0 rfl
  have h1 := b.obj.cell 1 rfl
  have l1 := a.obj.lt
  have l2 := b.obj.lt
  have l3 := b.map.lt
  have HM := Lib.hid a.map
  have HK := Lib.hid b.key
  have HN := Lib.hid b.map
  have HKl := Lib.hid hkl
  have HPl := Lib.hid hpl
  have HAt := Lib.hid hat
  have hb2 : (hadH H rev).2 = (atK H.gens rev).2 := rfl
  have HB2 := Lib.hid hb2
  generalize hadH H rev = r at *
  generalize hs : atK H.gens rev = q at *
  clear a b hkl hpl hat hb2 hfit hH
  obtain ⟨⟨q1, q2, q3⟩, q4⟩ := q
  obtain ⟨⟨r1, r2, r3, r4, r5, r6⟩, rb⟩ := r
  go_enter Try.func71, Try.ntmps71
  go_wp2_with (first
    | (at_lookup; refine wpList_look rfl _ _ 119 rfl 3 142 Try.underlying119 Try.underlying3 p _ rfl (HM.out.alloc _) at_ rfl hwf _ (zero142 _) _ HPl.out ?_)
    | (at_lookup; refine wpList_look rfl _ _ 144 rfl 3 57 Try.underlying144 Try.underlying3 m _ rfl (by first | exact HN2.out.alloc _ | exact HN2.out) q2 rfl hwf2 _ (zero57 _) _ HKl.out ?_)
    | (go_at_call 109; refine (HAt.out _ (HK.out.fr ((Fr.refl No w).alloc _) (fun _ _ s => s))).mono ?_; rintro e w1 ⟨rfl, hf1⟩
       have hf2 : Fr No w w1 := ((Fr.refl No w).alloc _).trans0 hf1
       have h1' := hf2.cell0 h1
       have hsz : w.heap.size + 1 ≤ w1.heap.size := by have := hf1.size; simpa using this
       have HN2 := Lib.hid (HN.out.fr hf2 id)
       have k6 : w1.heap[w.heap.size]? = some (.cells #[.string ByteArray.empty, .string ByteArray.empty, .int .i64 0, .int .i64 0, .int .i64 0, .int .i64 0] 57 (0, 0)) := hf1.heap (alloc_at _ _ _ rfl) id
       unfold seenTuple seenV))
  have n0 := alloc_at w1 (Obj.cells #[Value.int .i64 q1, Value.int .i64 q2, Value.int .i64 q3] 182) _ rfl
  generalize hX : w1.alloc (Obj.cells #[Value.int .i64 q1, Value.int .i64 q2, Value.int .i64 q3] 182) = X at n0
  have hfX : Fr No w X := by rw [← hX]; exact hf2.alloc _
  have k6X : X.heap[w.heap.size]? = some (.cells #[.string ByteArray.empty, .string ByteArray.empty, .int .i64 0, .int .i64 0, .int .i64 0, .int .i64 0] 57 (0, 0)) := by rw [← hX]; exact alloc_old k6 _
  have n1 : X.cell? ⟨w1.heap.size, 1, none⟩ = some (.int .i64 q2) := by simp [World.cell?, n0]
  have e1 := hfX.cell0 h1
  have hlk := MapAt.look (P := Try.prog) (t := 144) (HN.out.fr (hfX.drew) id) Try.underlying144 Try.underlying3 hwf2 (zero57 _)
  rw [HKl.out] at hlk
  unfold kvV at hlk
  have hlt : w.heap.size < X.heap.size := heap_lt k6X
  have hlt1 : w1.heap.size < X.heap.size := heap_lt n0
  have hl2 : h < X.heap.size := by have := hfX.size; omega
  have n1Y : X.drew.cell? ⟨w1.heap.size, 1, none⟩ = some (.int .i64 q2) := n1
  have e1Y : X.drew.cell? ⟨h, 1, none⟩ = some (.map (some m)) := e1
  have k6Y : X.drew.heap[w.heap.size]? = some (.cells #[.string ByteArray.empty, .string ByteArray.empty, .int .i64 0, .int .i64 0, .int .i64 0, .int .i64 0] 57 (0, 0)) := k6X
  have hfY : Fr No w X.drew := hfX.drew
  have k0 : X.cell? ⟨w.heap.size, 0, none⟩ = some (.string ByteArray.empty) := by simp [World.cell?, k6X]
  have k1 : X.cell? ⟨w.heap.size, 1, none⟩ = some (.string ByteArray.empty) := by simp [World.cell?, k6X]
  have k2 : X.cell? ⟨w.heap.size, 2, none⟩ = some (.int .i64 0) := by simp [World.cell?, k6X]
  have k3 : X.cell? ⟨w.heap.size, 3, none⟩ = some (.int .i64 0) := by simp [World.cell?, k6X]
  have k4 : X.cell? ⟨w.heap.size, 4, none⟩ = some (.int .i64 0) := by simp [World.cell?, k6X]
  have k5 : X.cell? ⟨w.heap.size, 5, none⟩ = some (.int .i64 0) := by simp [World.cell?, k6X]
  have kf : ∀ i, X.frozen? ⟨w.heap.size, i, none⟩ = false := fun i => by simp [World.frozen?, k6X]
  have hne1 : w1.heap.size ≠ w.heap.size := by omega
  have hne2 : h ≠ w.heap.size := by omega
  have HS : ∀ W, Fr (fun b => b = w.heap.size) X W → W.cell? ⟨h, 1, none⟩ = some (.map (some m)) ∧ W.cell? ⟨w1.heap.size, 1, none⟩ = some (.int .i64 q2) ∧
      (Instr.lookup 144 (.map (some m)) (.int .i64 q2) false).run Try.prog W = .ok (.agg #[.string r1, .string r2, .int .i64 r3, .int .i64 r4, .int .i64 r5, .int .i64 r6]) W := by
    intro W hW
    refine ⟨hW.cell e1 hne2, hW.cell n1 hne1, ?_⟩
    have := MapAt.look (P := Try.prog) (t := 144) ((HN.out.fr hfX id).fr hW (by omega)) Try.underlying144 Try.underlying3 hwf2 (zero57 _)
    rw [HKl.out] at this
    exact this
  have HS' := Lib.hid HS
  clear HS hX h1' hlk n1Y e1Y n0 n1
  go_region_held (fun W => W.cell? ⟨h, 1, none⟩ = some (.map (some m)) ∧ W.cell? ⟨w1.heap.size, 1, none⟩ = some (.int .i64 q2) ∧
      (Instr.lookup 144 (.map (some m)) (.int .i64 q2) false).run Try.prog W = .ok (.agg #[.string r1, .string r2, .int .i64 r3, .int .i64 r4, .int .i64 r5, .int .i64 r6]) W)
    (first | (refine HS'.out _ (Fr.drew ?_); with_reducible exact Fr.refl _ X) | (refine HS'.out _ (Fr.drew ?_); (iterate 6 (with_reducible refine Fr.setAt ?_ _ _)); with_reducible exact Fr.refl _ X)) (fail)
  have z1 := heap_setCell_same k6X 0 (.string r1)
  have z2 := heap_setCell_same z1 1 (.string r2)
  have z3 := heap_setCell_same z2 2 (.int .i64 r3)
  have z4 := heap_setCell_same z3 3 (.int .i64 r4)
  have z5 := heap_setCell_same z4 4 (.int .i64 r5)
  have z6 := heap_setCell_same z5 5 (.int .i64 r6)
  have hfZ : Fr (fun b => b = w.heap.size) X ((((((X.setCell ⟨w.heap.size, 0, none⟩ (.string r1)).setCell ⟨w.heap.size, 1, none⟩ (.string r2)).setCell ⟨w.heap.size, 2, none⟩ (.int .i64 r3)).setCell ⟨w.heap.size, 3, none⟩ (.int .i64 r4)).setCell ⟨w.heap.size, 4, none⟩ (.int .i64 r5)).setCell ⟨w.heap.size, 5, none⟩ (.int .i64 r6)) :=
    (((((((Fr.refl _ X).setAt 0 _).setAt 1 _).setAt 2 _).setAt 3 _).setAt 4 _).setAt 5 _)
  generalize ((((((X.setCell ⟨w.heap.size, 0, none⟩ (.string r1)).setCell ⟨w.heap.size, 1, none⟩ (.string r2)).setCell ⟨w.heap.size, 2, none⟩ (.int .i64 r3)).setCell ⟨w.heap.size, 3, none⟩ (.int .i64 r4)).setCell ⟨w.heap.size, 4, none⟩ (.int .i64 r5)).setCell ⟨w.heap.size, 5, none⟩ (.int .i64 r6)) = Z at z6 hfZ ⊢
  simp at z6
  have y0 : Z.cell? ⟨w.heap.size, 0, none⟩ = some (.string r1) := by simp [World.cell?, z6]
  have y1 : Z.cell? ⟨w.heap.size, 1, none⟩ = some (.string r2) := by simp [World.cell?, z6]
  have y2 : Z.cell? ⟨w.heap.size, 2, none⟩ = some (.int .i64 r3) := by simp [World.cell?, z6]
  have y3 : Z.cell? ⟨w.heap.size, 3, none⟩ = some (.int .i64 r4) := by simp [World.cell?, z6]
  have y4 : Z.cell? ⟨w.heap.size, 4, none⟩ = some (.int .i64 r5) := by simp [World.cell?, z6]
  have y5 : Z.cell? ⟨w.heap.size, 5, none⟩ = some (.int .i64 r6) := by simp [World.cell?, z6]
  have hfin : Fr No w Z.drew := by
    have hfF : Fr No w Z := ⟨hfZ.os.trans hfX.os, hfZ.tape.trans hfX.tape, hfZ.output.trans hfX.output, Nat.le_trans hfX.size hfZ.size, fun k hk _ => (hfZ.block k (Nat.lt_of_lt_of_le hk hfX.size) (by omega)).trans (hfX.block k hk id)⟩
    exact hfF.drew
  clear z1 z2 z3 z4 z5 z6 hfZ k0 k1 k2 k3 k4 k5 kf HS'
  go_wp2
  have hrb : rb = q4 := HB2.out
  subst hrb
  refine bodyPost_ret (v := kvTuple (⟨r1, r2, r3, r4, r5, r6⟩, rb)) (w := Z.drew) (by rw [results_cell_tmp rfl]; go_simp; rfl) rfl ⟨rfl, hfin⟩

/-- What a key has now. -/
def livesS (S : St) (key : ByteArray) (rev : Int) : Kv × Bool :=
  if (getT S.T key).2 then match S.past (getT S.T key).1 with
    | some H => hadH H rev
    | none => (kv0, false)
  else (kv0, false)

/-- Six cells that are stored into a result's own block, and the block read again. -/
theorem kv_stored {w X : World} {b : Nat} {a0 a1 a2 a3 a4 a5 : Value} (hk : X.heap[b]? = some (.cells #[a0, a1, a2, a3, a4, a5] 57 (0, 0))) (r : Kv) :
    ∃ Z, ((((((X.setCell ⟨b, 0, none⟩ (.string r.key)).setCell ⟨b, 1, none⟩ (.string r.value)).setCell ⟨b, 2, none⟩ (.int .i64 r.create)).setCell ⟨b, 3, none⟩ (.int .i64 r.mod)).setCell ⟨b, 4, none⟩ (.int .i64 r.version)).setCell ⟨b, 5, none⟩ (.int .i64 r.lease)) = Z ∧
      Z.heap[b]? = some (.cells #[.string r.key, .string r.value, .int .i64 r.create, .int .i64 r.mod, .int .i64 r.version, .int .i64 r.lease] 57 (0, 0)) ∧ (Fr No w X → w.heap.size ≤ b → Fr No w Z) := by
  have z1 := heap_setCell_same hk 0 (.string r.key)
  have z2 := heap_setCell_same z1 1 (.string r.value)
  have z3 := heap_setCell_same z2 2 (.int .i64 r.create)
  have z4 := heap_setCell_same z3 3 (.int .i64 r.mod)
  have z5 := heap_setCell_same z4 4 (.int .i64 r.version)
  have z6 := heap_setCell_same z5 5 (.int .i64 r.lease)
  have hfZ := (((((((Fr.refl (fun x => x = b) X).setAt 0 (.string r.key)).setAt 1 (.string r.value)).setAt 2 (.int .i64 r.create)).setAt 3 (.int .i64 r.mod)).setAt 4 (.int .i64 r.version)).setAt 5 (.int .i64 r.lease))
  clear z1 z2 z3 z4 z5
  generalize ((((((X.setCell ⟨b, 0, none⟩ (.string r.key)).setCell ⟨b, 1, none⟩ (.string r.value)).setCell ⟨b, 2, none⟩ (.int .i64 r.create)).setCell ⟨b, 3, none⟩ (.int .i64 r.mod)).setCell ⟨b, 4, none⟩ (.int .i64 r.version)).setCell ⟨b, 5, none⟩ (.int .i64 r.lease)) = Z at *
  refine ⟨Z, rfl, ?_, fun hf hb => hf.trans hfZ fun j hj e => ?_⟩
  · rw [z6]; simp
  · have e' : j = b := e
    omega

theorem lives_calls {TA : TreeRel} {N : Nat} (hT : TreeOk TA N) {n : Nat} (hn : n ≤ 1099511627) (w : World) (s : Nat) (S : St) (F : Nat → Prop) (hS : StoreAt TA w s S F) (hok : StOk n S) (key : ByteArray) (rev : Int) :
    Calls Try.prog 79 #[.pointer (some ⟨s, 0, none⟩), .string key, .int .i64 rev] w fun e w' => e = .returned (kvTuple (livesS S key rev)) ∧ Fr No w w' := by
  have hhad := fun W hW at_ H hH => had_calls hT hn W s S F hW hok at_ rev H hH
  have hSA := Lib.hid hS
  obtain ⟨t, p, ev, hp, FT, FH, a, hF⟩ := hS
  have c0 := a.obj.cell 0 rfl
  have l1 := a.obj.lt
  have hget := fun W hW => hT.get (w := W) (t := t) (T := S.T) (F := FT) key hW
  have HT := Lib.hid a.tree
  have HG := Lib.hid hget
  have HH := Lib.hid hhad
  have hl : livesS S key rev = livesS S key rev := rfl
  have hid : (getT S.T key).2 = true → ∃ H, S.past (getT S.T key).1 = some H := by
    unfold getT
    cases hf : S.T.find? (fun p => keq p.1 key) with
    | none => intro h; cases h
    | some q => intro _; exact hok.id q (List.mem_of_find?_eq_some hf)
  unfold livesS at hl ⊢
  generalize getT S.T key = g at *
  obtain ⟨g1, g2⟩ := g
  have HI := Lib.hid hid
  clear a hget hhad hid hl
  cases g2
  · go_enter Try.func79, Try.ntmps79
    go_wp2_with (first
      | (go_at_call 112; refine (HG.out _ (hT.fr HT.out ((Fr.refl No w).alloc _) (fun _ _ s => s))).mono ?_; rintro e w1 ⟨rfl, hf1⟩
         have hf2 : Fr No w w1 := ((Fr.refl No w).alloc _).trans0 hf1
         have k6 : w1.heap[w.heap.size]? = some (.cells #[.string ByteArray.empty, .string ByteArray.empty, .int .i64 0, .int .i64 0, .int .i64 0, .int .i64 0] 57 (0, 0)) := hf1.heap (alloc_at _ _ _ rfl) id
         have k0 : w1.cell? ⟨w.heap.size, 0, none⟩ = some (.string ByteArray.empty) := by simp [World.cell?, k6]
         have k1 : w1.cell? ⟨w.heap.size, 1, none⟩ = some (.string ByteArray.empty) := by simp [World.cell?, k6]
         have k2 : w1.cell? ⟨w.heap.size, 2, none⟩ = some (.int .i64 0) := by simp [World.cell?, k6]
         have k3 : w1.cell? ⟨w.heap.size, 3, none⟩ = some (.int .i64 0) := by simp [World.cell?, k6]
         have k4 : w1.cell? ⟨w.heap.size, 4, none⟩ = some (.int .i64 0) := by simp [World.cell?, k6]
         have k5 : w1.cell? ⟨w.heap.size, 5, none⟩ = some (.int .i64 0) := by simp [World.cell?, k6]
         have kf : ∀ i, w1.frozen? ⟨w.heap.size, i, none⟩ = false := fun i => by simp [World.frozen?, k6]
         unfold getTuple))
    obtain ⟨Z, hZ, z6, hzf⟩ := kv_stored (w := w) k6 ⟨⟨#[]⟩, ⟨#[]⟩, 0, 0, 0, 0⟩
    dsimp only at hZ z6
    rw [hZ]
    have y0 : Z.cell? ⟨w.heap.size, 0, none⟩ = some (.string ⟨#[]⟩) := by simp [World.cell?, z6]
    have y1 : Z.cell? ⟨w.heap.size, 1, none⟩ = some (.string ⟨#[]⟩) := by simp [World.cell?, z6]
    have y2 : Z.cell? ⟨w.heap.size, 2, none⟩ = some (.int .i64 0) := by simp [World.cell?, z6]
    have y3 : Z.cell? ⟨w.heap.size, 3, none⟩ = some (.int .i64 0) := by simp [World.cell?, z6]
    have y4 : Z.cell? ⟨w.heap.size, 4, none⟩ = some (.int .i64 0) := by simp [World.cell?, z6]
    have y5 : Z.cell? ⟨w.heap.size, 5, none⟩ = some (.int .i64 0) := by simp [World.cell?, z6]
    clear hZ
    refine bodyPost_ret (v := kvTuple (kv0, false)) (w := Z) (by rw [results_cell_tmp rfl]; go_simp; rfl) rfl ⟨rfl, hzf hf2 (Nat.le_refl _)⟩
  · obtain ⟨H, hH⟩ := HI.out rfl
    simp only [if_true, hH]
    generalize hr : hadH H rev = r at *
    obtain ⟨⟨r1, r2, r3, r4, r5, r6⟩, rb⟩ := r
    have HR := Lib.hid hr
    have HP := Lib.hid hH
    clear hr hH
    go_enter Try.func79, Try.ntmps79
    go_wp2_with (first
      | (go_at_call 112; refine (HG.out _ (hT.fr HT.out ((Fr.refl No w).alloc _) (fun _ _ s => s))).mono ?_; rintro e w1 ⟨rfl, hf1⟩
         have hf2 : Fr No w w1 := ((Fr.refl No w).alloc _).trans0 hf1
         have k6' : w1.heap[w.heap.size]? = some (.cells #[.string ByteArray.empty, .string ByteArray.empty, .int .i64 0, .int .i64 0, .int .i64 0, .int .i64 0] 57 (0, 0)) := hf1.heap (alloc_at _ _ _ rfl) id
         unfold getTuple)
      | (go_at_call 71; refine (HH.out _ (hSA.out.fr0 hT hf2) g1 H HP.out).mono ?_; rintro e w2 ⟨rfl, hf3⟩
         rw [HR.out]
         have hf4 : Fr No w w2 := hf2.trans0 hf3
         have k6 : w2.heap[w.heap.size]? = some (.cells #[.string ByteArray.empty, .string ByteArray.empty, .int .i64 0, .int .i64 0, .int .i64 0, .int .i64 0] 57 (0, 0)) := hf3.heap k6' id
         have k0 : w2.cell? ⟨w.heap.size, 0, none⟩ = some (.string ByteArray.empty) := by simp [World.cell?, k6]
         have k1 : w2.cell? ⟨w.heap.size, 1, none⟩ = some (.string ByteArray.empty) := by simp [World.cell?, k6]
         have k2 : w2.cell? ⟨w.heap.size, 2, none⟩ = some (.int .i64 0) := by simp [World.cell?, k6]
         have k3 : w2.cell? ⟨w.heap.size, 3, none⟩ = some (.int .i64 0) := by simp [World.cell?, k6]
         have k4 : w2.cell? ⟨w.heap.size, 4, none⟩ = some (.int .i64 0) := by simp [World.cell?, k6]
         have k5 : w2.cell? ⟨w.heap.size, 5, none⟩ = some (.int .i64 0) := by simp [World.cell?, k6]
         have kf : ∀ i, w2.frozen? ⟨w.heap.size, i, none⟩ = false := fun i => by simp [World.frozen?, k6]
         unfold kvTuple kvV))
    obtain ⟨Z, hZ, z6, hzf⟩ := kv_stored (w := w) k6 ⟨r1, r2, r3, r4, r5, r6⟩
    dsimp only at hZ z6
    rw [hZ]
    have y0 : Z.cell? ⟨w.heap.size, 0, none⟩ = some (.string r1) := by simp [World.cell?, z6]
    have y1 : Z.cell? ⟨w.heap.size, 1, none⟩ = some (.string r2) := by simp [World.cell?, z6]
    have y2 : Z.cell? ⟨w.heap.size, 2, none⟩ = some (.int .i64 r3) := by simp [World.cell?, z6]
    have y3 : Z.cell? ⟨w.heap.size, 3, none⟩ = some (.int .i64 r4) := by simp [World.cell?, z6]
    have y4 : Z.cell? ⟨w.heap.size, 4, none⟩ = some (.int .i64 r5) := by simp [World.cell?, z6]
    have y5 : Z.cell? ⟨w.heap.size, 5, none⟩ = some (.int .i64 r6) := by simp [World.cell?, z6]
    clear hZ
    refine bodyPost_ret (v := kvTuple (⟨r1, r2, r3, r4, r5, r6⟩, rb)) (w := Z) (by rw [results_cell_tmp rfl]; go_simp; rfl) rfl ⟨rfl, hzf hf4 (Nat.le_refl _)⟩
end Go.Proofs.Ythljnnjpmdgkoaa
