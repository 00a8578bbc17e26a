/- The store's form in memory, changed part by part (its own cells, the tree, the map, a history, the events). Plain facts; no program is run. -/
import Derived.Test.YthljnnjpmdgkoaaStore
namespace Go.Proofs.Ythljnnjpmdgkoaa
open Go Go.Proofs Go.RowKit
set_option maxRecDepth 100000

section
variable {TA : TreeRel} {N : Nat} (hT : TreeOk TA N) {w w' : World} {s t p : Nat} {ev : Value} {hp : Int → Option Nat} {FT : Nat → Prop} {FH : Int → Nat → Prop} {S : St}
include hT
theorem StoreR.setObj (a : StoreR TA w s t p ev hp FT FH S) (hf : Fr (fun b => b = s) w w') (n' r' m' : Int) (ho : Has w' s [.pointer (some ⟨t, 0, none⟩), .map (some p), .int .i64 n', .int .i64 r', .int .i64 m', ev]) :
    StoreR TA w' s t p ev hp FT FH { S with next := n', rev := r', mark := m' } where
  obj := ho
  tree := hT.fr a.tree hf fun b hb e => a.ds.1 (e ▸ hb)
  map := a.map.fr hf fun e => a.map.apart a.obj e
  events := a.events.fr hf fun b hb e => a.ds.2.1 (e ▸ hb)
  hist i H hi := by
    obtain ⟨h, h1, h2⟩ := a.hist i H hi
    exact ⟨h, h1, h2.fr hf fun b hb e => a.ds.2.2 i (e ▸ hb)⟩
  gone := a.gone
  ds := a.ds
  dp := a.dp
  dt := a.dt
  de := a.de
  dh := a.dh

theorem StoreR.setTree (a : StoreR TA w s t p ev hp FT FH S) (hf : Fr FT w w') {T' : Pairs} {FT' : Nat → Prop} (ht : TA w' t T' FT') (hn : ∀ b, FT' b → FT b ∨ w.heap.size ≤ b) :
    StoreR TA w' s t p ev hp FT' FH { S with T := T' } where
  obj := a.obj.fr hf a.ds.1
  tree := ht
  map := a.map.fr hf a.dp.1
  events := a.events.fr hf fun b hb e => (a.dt b e).1 hb
  hist i H hi := by
    obtain ⟨h, h1, h2⟩ := a.hist i H hi
    exact ⟨h, h1, h2.fr hf fun b hb e => (a.dt b e).2 i hb⟩
  gone := a.gone
  ds := ⟨fun e => by rcases hn _ e with h | h
                     · exact a.ds.1 h
                     · have := a.obj.lt; omega, a.ds.2⟩
  dp := ⟨fun e => by rcases hn _ e with h | h
                     · exact a.dp.1 h
                     · have := a.map.lt; omega, a.dp.2⟩
  dt b hb := by
    rcases hn _ hb with h | h
    · exact a.dt b h
    · exact ⟨fun e => by have := a.events.lt b e; omega, fun i hi => by have := a.lt hT b (.inr (.inr (.inr (.inr ⟨i, hi⟩)))); omega⟩
  de := a.de
  dh := a.dh

theorem StoreR.setHist (a : StoreR TA w s t p ev hp FT FH S) {id : Int} {h : Nat} {H' : Hist} {F' : Nat → Prop} (hid : hp id = some h) (hf : Fr (FH id) w w') (hh : HistAt w' h H' F') (hn : ∀ b, F' b → FH id b ∨ w.heap.size ≤ b) :
    StoreR TA w' s t p ev hp FT (fun i => if i = id then F' else FH i) { S with past := fun i => if i = id then some H' else S.past i } where
  obj := a.obj.fr hf (a.ds.2.2 id)
  tree := hT.fr a.tree hf fun b hb e => (a.dt b hb).2 id e
  map := a.map.fr hf (a.dp.2.2 id)
  events := a.events.fr hf fun b hb e => a.de b hb id e
  hist i H hi := by
    dsimp only at hi
    by_cases hi' : i = id
    · subst hi'
      rw [if_pos rfl] at hi
      cases hi
      exact ⟨h, hid, by rw [if_pos rfl]; exact hh⟩
    · rw [if_neg hi'] at hi
      obtain ⟨h2, h3, h4⟩ := a.hist i H hi
      exact ⟨h2, h3, by rw [if_neg hi']; exact h4.fr hf fun b hb e => hi' (a.dh i id b hb e)⟩
  gone i hi := by
    dsimp only at hi
    by_cases hi' : i = id
    · rw [if_pos hi'] at hi; cases hi
    · rw [if_neg hi'] at hi
      exact ⟨(a.gone i hi).1, by rw [if_neg hi']; exact (a.gone i hi).2⟩
  ds := ⟨a.ds.1, a.ds.2.1, fun i e => by
    by_cases hi' : i = id
    · rw [if_pos hi'] at e
      rcases hn _ e with h | h
      · exact a.ds.2.2 _ h
      · have := a.obj.lt; omega
    · rw [if_neg hi'] at e; exact a.ds.2.2 i e⟩
  dp := ⟨a.dp.1, a.dp.2.1, fun i e => by
    by_cases hi' : i = id
    · rw [if_pos hi'] at e
      rcases hn _ e with h | h
      · exact a.dp.2.2 _ h
      · have := a.map.lt; omega
    · rw [if_neg hi'] at e; exact a.dp.2.2 i e⟩
  dt b hb := ⟨(a.dt b hb).1, fun i e => by
    by_cases hi' : i = id
    · rw [if_pos hi'] at e
      rcases hn _ e with h | h
      · exact (a.dt b hb).2 _ h
      · have := hT.lt a.tree b hb; omega
    · rw [if_neg hi'] at e; exact (a.dt b hb).2 i e⟩
  de b hb i e := by
    by_cases hi' : i = id
    · rw [if_pos hi'] at e
      rcases hn _ e with h | h
      · exact a.de b hb _ h
      · have := a.events.lt b hb; omega
    · rw [if_neg hi'] at e; exact a.de b hb i e
  dh i j b hi hj := by
    by_cases hi' : i = id <;> by_cases hj' : j = id
    · rw [hi', hj']
    · rw [if_pos hi'] at hi; rw [if_neg hj'] at hj
      rcases hn _ hi with h | h
      · rw [hi']; exact a.dh id j b h hj
      · have := a.lt hT b (.inr (.inr (.inr (.inr ⟨j, hj⟩)))); omega
    · rw [if_neg hi'] at hi; rw [if_pos hj'] at hj
      rcases hn _ hj with h | h
      · rw [hj']; exact a.dh i id b hi h
      · have := a.lt hT b (.inr (.inr (.inr (.inr ⟨i, hi⟩)))); omega
    · rw [if_neg hi'] at hi; rw [if_neg hj'] at hj
      exact a.dh i j b hi hj

/-- A history that is new: its blocks are at B or behind, and all the store's are ahead of B. -/
theorem StoreR.addHist (a : StoreR TA w s t p ev hp FT FH S) {id : Int} {h B : Nat} {H' : Hist} {F' : Nat → Prop} (hid : S.past id = none) (hf : Fr (fun b => b = p) w w')
    (hm : MapAt w' p fun i => if i = id then some (.pointer (some ⟨h, 0, none⟩)) else (hp i).map fun h => .pointer (some ⟨h, 0, none⟩))
    (hB : ∀ b, storeF s p ev FT FH b → b < B) (hh : HistAt w' h H' F') (hn : ∀ b, F' b → B ≤ b) :
    StoreR TA w' s t p ev (fun i => if i = id then some h else hp i) FT (fun i => if i = id then F' else FH i) { S with past := fun i => if i = id then some H' else S.past i } where
  obj := a.obj.fr hf fun e => a.map.apart a.obj e.symm
  tree := hT.fr a.tree hf fun b hb e => a.dp.1 (e ▸ hb)
  map := by
    refine cast (congrArg (MapAt w' p) ?_) hm
    funext i
    by_cases hi : i = id <;> simp [hi]
  events := a.events.fr hf fun b hb e => a.dp.2.1 (e ▸ hb)
  hist i H hi := by
    dsimp only at hi
    by_cases hi' : i = id
    · subst hi'
      rw [if_pos rfl] at hi
      cases hi
      exact ⟨h, if_pos rfl, by rw [if_pos rfl]; exact hh⟩
    · rw [if_neg hi'] at hi
      obtain ⟨h2, h3, h4⟩ := a.hist i H hi
      exact ⟨h2, by rw [if_neg hi']; exact h3, by rw [if_neg hi']; exact h4.fr hf fun b hb e => a.dp.2.2 i (e ▸ hb)⟩
  gone i hi := by
    dsimp only at hi
    by_cases hi' : i = id
    · rw [if_pos hi'] at hi; cases hi
    · rw [if_neg hi'] at hi
      exact ⟨by rw [if_neg hi']; exact (a.gone i hi).1, by rw [if_neg hi']; exact (a.gone i hi).2⟩
  ds := ⟨a.ds.1, a.ds.2.1, fun i e => by
    by_cases hi' : i = id
    · rw [if_pos hi'] at e
      have := hn _ e; have := hB s (.inl rfl); omega
    · rw [if_neg hi'] at e; exact a.ds.2.2 i e⟩
  dp := ⟨a.dp.1, a.dp.2.1, fun i e => by
    by_cases hi' : i = id
    · rw [if_pos hi'] at e
      have := hn _ e; have := hB p (.inr (.inl rfl)); omega
    · rw [if_neg hi'] at e; exact a.dp.2.2 i e⟩
  dt b hb := ⟨(a.dt b hb).1, fun i e => by
    by_cases hi' : i = id
    · rw [if_pos hi'] at e
      have := hn _ e; have := hB b (.inr (.inr (.inl hb))); omega
    · rw [if_neg hi'] at e; exact (a.dt b hb).2 i e⟩
  de b hb i e := by
    by_cases hi' : i = id
    · rw [if_pos hi'] at e
      have := hn _ e; have := hB b (.inr (.inr (.inr (.inl hb)))); omega
    · rw [if_neg hi'] at e; exact a.de b hb i e
  dh i j b hi hj := by
    by_cases hi' : i = id <;> by_cases hj' : j = id
    · rw [hi', hj']
    · rw [if_pos hi'] at hi; rw [if_neg hj'] at hj
      have := hn _ hi; have := hB b (.inr (.inr (.inr (.inr ⟨j, hj⟩)))); omega
    · rw [if_neg hi'] at hi; rw [if_pos hj'] at hj
      have := hn _ hj; have := hB b (.inr (.inr (.inr (.inr ⟨i, hi⟩)))); omega
    · rw [if_neg hi'] at hi; rw [if_neg hj'] at hj
      exact a.dh i j b hi hj

theorem StoreR.setEvents (a : StoreR TA w s t p ev hp FT FH S) {ev' : Value} {E' : List Ev} (hf : Fr (fun b => b = s ∨ ev.ownBlock = some b) w w')
    (ho : Has w' s [.pointer (some ⟨t, 0, none⟩), .map (some p), .int .i64 S.next, .int .i64 S.rev, .int .i64 S.mark, ev']) (he : SlF w' 73 13 evC ev' E') (hn : ∀ b, ev'.ownBlock = some b → ev.ownBlock = some b ∨ w.heap.size ≤ b) :
    StoreR TA w' s t p ev' hp FT FH { S with events := E' } where
  obj := ho
  tree := hT.fr a.tree hf fun b hb e => by
    rcases e with e | e
    · exact a.ds.1 (e ▸ hb)
    · exact (a.dt b hb).1 e
  map := a.map.fr hf fun e => by
    rcases e with e | e
    · exact a.map.apart a.obj e
    · exact a.dp.2.1 e
  events := he
  hist i H hi := by
    obtain ⟨h, h1, h2⟩ := a.hist i H hi
    refine ⟨h, h1, h2.fr hf fun b hb e => ?_⟩
    rcases e with e | e
    · exact a.ds.2.2 i (e ▸ hb)
    · exact a.de b e i hb
  gone := a.gone
  ds := ⟨a.ds.1, fun e => by rcases hn _ e with h | h
                             · exact a.ds.2.1 h
                             · have := a.obj.lt; omega, a.ds.2.2⟩
  dp := ⟨a.dp.1, fun e => by rcases hn _ e with h | h
                             · exact a.dp.2.1 h
                             · have := a.map.lt; omega, a.dp.2.2⟩
  dt b hb := ⟨fun e => by rcases hn _ e with h | h
                          · exact (a.dt b hb).1 h
                          · have := hT.lt a.tree b hb; omega, (a.dt b hb).2⟩
  de b hb i hi := by
    rcases hn _ hb with h | h
    · exact a.de b h i hi
    · have := a.lt hT b (.inr (.inr (.inr (.inr ⟨i, hi⟩)))); omega
  dh := a.dh
end
end Go.Proofs.Ythljnnjpmdgkoaa
