/- Lemmas for the claim. Conditions stand in each. -/
import Derived.Test.YthljnnjpmdgkoaaGreatG03
import Derived.Test.YthljnnjpmdgkoaaGreatG00
import Derived.Test.YthljnnjpmdgkoaaGreatG04
import Derived.Test.YthljnnjpmdgkoaaGreatG01
import Derived.Test.YthljnnjpmdgkoaaGreatG02
import Derived.Deep.RegionHeld
namespace Go.Proofs.YthljnnjpmdgkoaaGreat
open Go Go.Proofs Go.RowKit
set_option maxRecDepth 100000
structure Kv where
 key : ByteArray
 value : ByteArray
 create : Int
 mod : Int
 version : Int
 lease : Int
def kv0 : Kv := ⟨ByteArray.empty, ByteArray.empty, 0, 0, 0, 0⟩
def kvC (x : Kv) : List Value := [.string x.key, .string x.value, .int .i64 x.create, .int .i64 x.mod, .int .i64 x.version, .int .i64 x.lease]
def kvV (x : Kv) : Value := .agg #[.string x.key, .string x.value, .int .i64 x.create, .int .i64 x.mod, .int .i64 x.version, .int .i64 x.lease]
theorem zaf (x : Kv) : (kvC x).length = 6 := rfl
structure Ev where
 kind : Int
 kv : Kv
 prev : Kv
def evC (x : Ev) : List Value := .int .i64 x.kind :: (kvC x.kv ++ kvC x.prev)
theorem zab (x : Ev) : (evC x).length = 13 := rfl
def evV (x : Ev) : Value := .agg #[.int .i64 x.kind, .string x.kv.key, .string x.kv.value, .int .i64 x.kv.create, .int .i64 x.kv.mod, .int .i64 x.kv.version, .int .i64 x.kv.lease, .string x.prev.key, .string x.prev.value, .int .i64 x.prev.create, .int .i64 x.prev.mod, .int .i64 x.prev.version, .int .i64 x.prev.lease]
structure Hist where
 gens : List Gen
 last : Int
 kvs : Int → Option Kv
def hadH (H : Hist) (rev : Int) : Kv × Bool := ((H.kvs (atK H.gens rev).1.2.1).getD kv0, (atK H.gens rev).2)
def top : Int := 1099511627776
structure HistOk (n : Nat) (H : Hist) : Prop where
 len : H.gens.length ≤ n
 puts : ∀ x ∈ H.gens, x.puts.length ≤ n ∧ 0 ≤ x.cut ∧ x.cut ≤ top ∧ (∀ p ∈ x.puts, 1 ≤ p ∧ p ≤ top)
theorem HistOk.fits {n : Nat} {H : Hist} (h : HistOk n H) (hn : n ≤ 1099511627) : Fits H.gens :=
 ⟨Nat.le_trans h.len hn, fun x hx => ⟨Nat.le_trans (h.puts x hx).1 hn, (h.puts x hx).2.1, (h.puts x hx).2.2.1⟩⟩
theorem wf64 {a : Int} (h0 : -9223372036854775808 ≤ a) (h1 : a ≤ 9223372036854775807) : (Lit.int .i64 a).wf = true := by
 simp [Lit.wf, IntKind.min, IntKind.max, IntKind.signed, IntKind.bits]; omega
theorem HistOk.wf {n : Nat} {H : Hist} (h : HistOk n H) (rev : Int) : (Lit.int .i64 (atK H.gens rev).1.2.1).wf = true := by
 have key : 0 ≤ (atK H.gens rev).1.2.1 ∧ (atK H.gens rev).1.2.1 ≤ top := by
  unfold atK
  split
  · simp [top]
  rename_i x hx
  have hm := List.mem_of_find?_eq_some hx; rw [List.mem_reverse] at hm
  split
  · simp [top]
  dsimp only
  cases hp : x.puts[upTo x.puts rev - 1]? with
  | none => simp [top]
  | some p =>
    have := (h.puts x hm).2.2.2 p (List.mem_of_getElem? hp); simp; omega
 unfold top at key; exact wf64 (by omega) (by omega)
structure HistR (w : World) (h g m : Nat) (FK : Nat → Prop) (H : Hist) : Prop where
 obj : Has w h [.pointer (some ⟨g, 0, none⟩), .map (some m)]
 key : KeyAt w g H.gens H.last FK
 map : MapAt w m fun r => (H.kvs r).map kvV
 d1 : ¬ FK h
 d2 : ¬ FK m
def HistAt (w : World) (h : Nat) (H : Hist) (F : Nat → Prop) : Prop := ∃ g m FK, HistR w h g m FK H ∧ ∀ b, F b ↔ (b = h ∨ b = m ∨ FK b)
theorem HistAt.lt {w : World} {h : Nat} {H : Hist} {F : Nat → Prop} (a : HistAt w h H F) : ∀ b, F b → b < w.heap.size := by
 obtain ⟨g, m, FK, a, hF⟩ := a; intro b hb; rcases (hF b).1 hb with rfl | rfl | e
 · exact a.obj.lt
 · exact a.map.lt
 exact a.key.lt b e
theorem HistR.fr {w w' : World} {h g m : Nat} {H : Hist} {FK S : Nat → Prop} (a : HistR w h g m FK H) (hf : Fr S w w') (h1 : ¬ S h) (h2 : ¬ S m) (h3 : ∀ b, FK b → ¬ S b) : HistR w' h g m FK H :=
 ⟨a.obj.fr hf h1, a.key.fr hf h3, a.map.fr hf h2, a.d1, a.d2⟩
theorem HistAt.fr {w w' : World} {h : Nat} {H : Hist} {F S : Nat → Prop} (a : HistAt w h H F) (hf : Fr S w w') (hn : ∀ b, F b → ¬ S b) : HistAt w' h H F := by
 obtain ⟨g, m, FK, a, hF⟩ := a; exact ⟨g, m, FK, a.fr hf (hn _ ((hF _).2 (.inl rfl))) (hn _ ((hF _).2 (.inr (.inl rfl)))) (fun b hb => hn b ((hF b).2 (.inr (.inr hb)))), hF⟩
structure St where
 T : Pairs
 past : Int → Option Hist
 next : Int
 rev : Int
 mark : Int
 events : List Ev
structure StOk (n : Nat) (S : St) : Prop where
 pos : 0 ≤ S.next
 next : S.next ≤ n
 id : ∀ p ∈ S.T, ∃ H, S.past p.2 = some H
 ids : ∀ i H, S.past i = some H → 0 ≤ i ∧ i < S.next
 hist : ∀ i H, S.past i = some H → HistOk n H ∧ H.last ≤ top
 rev0 : -top ≤ S.rev
 rev1 : S.rev ≤ top
 mark0 : 0 ≤ S.mark
 ev : S.events.length ≤ n
structure StoreR (TA : zao) (w : World) (s t p : Nat) (ev : Value) (hp : Int → Option Nat) (FT : Nat → Prop) (FH : Int → Nat → Prop) (S : St) : Prop where
 obj : Has w s [.pointer (some ⟨t, 0, none⟩), .map (some p), .int .i64 S.next, .int .i64 S.rev, .int .i64 S.mark, ev]
 tree : TA w t S.T FT
 map : MapAt w p fun i => (hp i).map fun h => .pointer (some ⟨h, 0, none⟩)
 events : SlF w 101 13 evC ev S.events
 hist : ∀ i H, S.past i = some H → ∃ h, hp i = some h ∧ HistAt w h H (FH i)
 gone : ∀ i, S.past i = none → hp i = none ∧ ∀ b, ¬ FH i b
 ds : ¬ FT s ∧ ev.ownBlock ≠ some s ∧ ∀ i, ¬ FH i s
 dp : ¬ FT p ∧ ev.ownBlock ≠ some p ∧ ∀ i, ¬ FH i p
 dt : ∀ b, FT b → ev.ownBlock ≠ some b ∧ ∀ i, ¬ FH i b
 de : ∀ b, ev.ownBlock = some b → ∀ i, ¬ FH i b
 dh : ∀ i j b, FH i b → FH j b → i = j
def storeF (s p : Nat) (ev : Value) (FT : Nat → Prop) (FH : Int → Nat → Prop) (b : Nat) : Prop := b = s ∨ b = p ∨ FT b ∨ ev.ownBlock = some b ∨ ∃ i, FH i b
def zaj (TA : zao) (w : World) (s : Nat) (S : St) (F : Nat → Prop) : Prop :=
 ∃ t p ev hp FT FH, StoreR TA w s t p ev hp FT FH S ∧ ∀ b, F b ↔ storeF s p ev FT FH b
section
variable {TA : zao} {N : Nat} (hT : TreeOk TA N)
include hT
theorem StoreR.fr {w w' : World} {s t p : Nat} {ev : Value} {hp : Int → Option Nat} {FT : Nat → Prop} {FH : Int → Nat → Prop} {S : St} {X : Nat → Prop} (a : StoreR TA w s t p ev hp FT FH S) (hf : Fr X w w')
 (hn : ∀ b, storeF s p ev FT FH b → ¬ X b) : StoreR TA w' s t p ev hp FT FH S where
 obj := a.obj.fr hf (hn _ (.inl rfl))
 tree := hT.fr a.tree hf fun b hb => hn b (.inr (.inr (.inl hb)))
 map := a.map.fr hf (hn _ (.inr (.inl rfl)))
 events := a.events.fr hf fun b hb => hn b (.inr (.inr (.inr (.inl hb))))
 hist i H hi := by
  obtain ⟨h, h1, h2⟩ := a.hist i H hi; exact ⟨h, h1, h2.fr hf fun b hb => hn b (.inr (.inr (.inr (.inr ⟨i, hb⟩))))⟩
 gone := a.gone
 ds := a.ds
 dp := a.dp
 dt := a.dt
 de := a.de
 dh := a.dh
theorem StoreR.lt {w : World} {s t p : Nat} {ev : Value} {hp : Int → Option Nat} {FT : Nat → Prop} {FH : Int → Nat → Prop} {S : St} (a : StoreR TA w s t p ev hp FT FH S) : ∀ b, storeF s p ev FT FH b → b < w.heap.size := by
 rintro b (rfl | rfl | e | e | ⟨i, e⟩)
 · exact a.obj.lt
 · exact a.map.lt
 · exact hT.lt a.tree b e
 · exact a.events.lt b e
 cases h : S.past i with
 | none => exact absurd e ((a.gone i h).2 b)
 | some H =>
   obtain ⟨h, _, h2⟩ := a.hist i H h; exact h2.lt b e
theorem zaj.fr {w w' : World} {s : Nat} {S : St} {F X : Nat → Prop} (a : zaj TA w s S F) (hf : Fr X w w') (hn : ∀ b, F b → ¬ X b) : zaj TA w' s S F := by
 obtain ⟨t, p, ev, hp, FT, FH, a, hF⟩ := a; exact ⟨t, p, ev, hp, FT, FH, a.fr hT hf (fun b hb => hn b ((hF b).2 hb)), hF⟩
theorem zaj.fr0 {w w' : World} {s : Nat} {S : St} {F : Nat → Prop} (a : zaj TA w s S F) (hf : Fr No w w') : zaj TA w' s S F := a.fr hT hf fun _ _ s => s
theorem zaj.lt {w : World} {s : Nat} {S : St} {F : Nat → Prop} (a : zaj TA w s S F) : ∀ b, F b → b < w.heap.size := by
 obtain ⟨t, p, ev, hp, FT, FH, a, hF⟩ := a; exact fun b hb => a.lt hT b ((hF b).1 hb)
end
def zch (r : Kv × Bool) : Value := .tuple #[kvV r.1, .bool r.2]
theorem zero57 (w : World) : (zeroValue 99).run Tryz.prog w = .ok (kvV kv0) w := by kernel_rfl
theorem zero142 (w : World) : (zeroValue 167).run Tryz.prog w = .ok (.pointer none) w := by kernel_rfl
section
variable {TA : zao} {N : Nat} (hT : TreeOk TA N) {w w' : World} {s t p : Nat} {ev : Value} {hp : Int → Option Nat} {FT : Nat → Prop} {FH : Int → Nat → Prop} {S : St}
include hT
theorem StoreR.setObj (a : StoreR TA w s t p ev hp FT FH S) (hf : Fr (fun b => b = s) w w') (n' r' m' : Int) (ho : Has w' s [.pointer (some ⟨t, 0, none⟩), .map (some p), .int .i64 n', .int .i64 r', .int .i64 m', ev]) :
 StoreR TA w' s t p ev hp FT FH { S with next := n', rev := r', mark := m' } where
 obj := ho
 tree := hT.fr a.tree hf fun b hb e => a.ds.1 (e ▸ hb)
 map := a.map.fr hf fun e => a.map.apart a.obj e
 events := a.events.fr hf fun b hb e => a.ds.2.1 (e ▸ hb)
 hist i H hi := by
  obtain ⟨h, h1, h2⟩ := a.hist i H hi; exact ⟨h, h1, h2.fr hf fun b hb e => a.ds.2.2 i (e ▸ hb)⟩
 gone := a.gone
 ds := a.ds
 dp := a.dp
 dt := a.dt
 de := a.de
 dh := a.dh
theorem StoreR.setTree (a : StoreR TA w s t p ev hp FT FH S) (hf : Fr FT w w') {T' : Pairs} {FT' : Nat → Prop} (ht : TA w' t T' FT') (hn : ∀ b, FT' b → FT b ∨ w.heap.size ≤ b) :
 StoreR TA w' s t p ev hp FT' FH { S with T := T' } where
 obj := a.obj.fr hf a.ds.1
 tree := ht
 map := a.map.fr hf a.dp.1
 events := a.events.fr hf fun b hb e => (a.dt b e).1 hb
 hist i H hi := by
  obtain ⟨h, h1, h2⟩ := a.hist i H hi; exact ⟨h, h1, h2.fr hf fun b hb e => (a.dt b e).2 i hb⟩
 gone := a.gone
 ds := ⟨fun e => by rcases hn _ e with h | h
                    · exact a.ds.1 h
                    have := a.obj.lt; omega, a.ds.2⟩
 dp := ⟨fun e => by rcases hn _ e with h | h
                    · exact a.dp.1 h
                    have := a.map.lt; omega, a.dp.2⟩
 dt b hb := by
  rcases hn _ hb with h | h
  · exact a.dt b h
  exact ⟨fun e => by have := a.events.lt b e; omega, fun i hi => by have := a.lt hT b (.inr (.inr (.inr (.inr ⟨i, hi⟩)))); omega⟩
 de := a.de
 dh := a.dh
theorem StoreR.setHist (a : StoreR TA w s t p ev hp FT FH S) {id : Int} {h : Nat} {H' : Hist} {F' : Nat → Prop} (hid : hp id = some h) (hf : Fr (FH id) w w') (hh : HistAt w' h H' F') (hn : ∀ b, F' b → FH id b ∨ w.heap.size ≤ b) :
 StoreR TA w' s t p ev hp FT (fun i => if i = id then F' else FH i) { S with past := fun i => if i = id then some H' else S.past i } where
 obj := a.obj.fr hf (a.ds.2.2 id)
 tree := hT.fr a.tree hf fun b hb e => (a.dt b hb).2 id e
 map := a.map.fr hf (a.dp.2.2 id)
 events := a.events.fr hf fun b hb e => a.de b hb id e
 hist i H hi := by
  dsimp only at hi; by_cases hi' : i = id
  · subst hi'
    rw [if_pos rfl] at hi; cases hi
    exact ⟨h, hid, by rw [if_pos rfl]; exact hh⟩
  rw [if_neg hi'] at hi
  obtain ⟨h2, h3, h4⟩ := a.hist i H hi; exact ⟨h2, h3, by rw [if_neg hi']; exact h4.fr hf fun b hb e => hi' (a.dh i id b hb e)⟩
 gone i hi := by
  dsimp only at hi; by_cases hi' : i = id
  · rw [if_pos hi'] at hi; cases hi
  rw [if_neg hi'] at hi
  exact ⟨(a.gone i hi).1, by rw [if_neg hi']; exact (a.gone i hi).2⟩
 ds := ⟨a.ds.1, a.ds.2.1, fun i e => by
  by_cases hi' : i = id
  · rw [if_pos hi'] at e
    rcases hn _ e with h | h
    · exact a.ds.2.2 _ h
    have := a.obj.lt; omega
  rw [if_neg hi'] at e; exact a.ds.2.2 i e⟩
 dp := ⟨a.dp.1, a.dp.2.1, fun i e => by
  by_cases hi' : i = id
  · rw [if_pos hi'] at e
    rcases hn _ e with h | h
    · exact a.dp.2.2 _ h
    have := a.map.lt; omega
  rw [if_neg hi'] at e; exact a.dp.2.2 i e⟩
 dt b hb := ⟨(a.dt b hb).1, fun i e => by
  by_cases hi' : i = id
  · rw [if_pos hi'] at e
    rcases hn _ e with h | h
    · exact (a.dt b hb).2 _ h
    have := hT.lt a.tree b hb; omega
  rw [if_neg hi'] at e; exact (a.dt b hb).2 i e⟩
 de b hb i e := by
  by_cases hi' : i = id
  · rw [if_pos hi'] at e
    rcases hn _ e with h | h
    · exact a.de b hb _ h
    have := a.events.lt b hb; omega
  rw [if_neg hi'] at e; exact a.de b hb i e
 dh i j b hi hj := by
  by_cases hi' : i = id <;> by_cases hj' : j = id
  · rw [hi', hj']
  · rw [if_pos hi'] at hi; rw [if_neg hj'] at hj
    rcases hn _ hi with h | h
    · rw [hi']; exact a.dh id j b h hj
    have := a.lt hT b (.inr (.inr (.inr (.inr ⟨j, hj⟩)))); omega
  · rw [if_neg hi'] at hi; rw [if_pos hj'] at hj
    rcases hn _ hj with h | h
    · rw [hj']; exact a.dh i id b hi h
    have := a.lt hT b (.inr (.inr (.inr (.inr ⟨i, hi⟩)))); omega
  rw [if_neg hi'] at hi; rw [if_neg hj'] at hj
  exact a.dh i j b hi hj
theorem StoreR.addHist (a : StoreR TA w s t p ev hp FT FH S) {id : Int} {h B : Nat} {H' : Hist} {F' : Nat → Prop} (hid : S.past id = none) (hf : Fr (fun b => b = p) w w')
 (hm : MapAt w' p fun i => if i = id then some (.pointer (some ⟨h, 0, none⟩)) else (hp i).map fun h => .pointer (some ⟨h, 0, none⟩))
 (hB : ∀ b, storeF s p ev FT FH b → b < B) (hh : HistAt w' h H' F') (hn : ∀ b, F' b → B ≤ b) :
 StoreR TA w' s t p ev (fun i => if i = id then some h else hp i) FT (fun i => if i = id then F' else FH i) { S with past := fun i => if i = id then some H' else S.past i } where
 obj := a.obj.fr hf fun e => a.map.apart a.obj e.symm
 tree := hT.fr a.tree hf fun b hb e => a.dp.1 (e ▸ hb)
 map := by
  refine cast (congrArg (MapAt w' p) ?_) hm
  funext i
  by_cases hi : i = id <;> simp [hi]
 events := a.events.fr hf fun b hb e => a.dp.2.1 (e ▸ hb)
 hist i H hi := by
  dsimp only at hi; by_cases hi' : i = id
  · subst hi'
    rw [if_pos rfl] at hi; cases hi
    exact ⟨h, if_pos rfl, by rw [if_pos rfl]; exact hh⟩
  rw [if_neg hi'] at hi
  obtain ⟨h2, h3, h4⟩ := a.hist i H hi; exact ⟨h2, by rw [if_neg hi']; exact h3, by rw [if_neg hi']; exact h4.fr hf fun b hb e => a.dp.2.2 i (e ▸ hb)⟩
 gone i hi := by
  dsimp only at hi; by_cases hi' : i = id
  · rw [if_pos hi'] at hi; cases hi
  rw [if_neg hi'] at hi
  exact ⟨by rw [if_neg hi']; exact (a.gone i hi).1, by rw [if_neg hi']; exact (a.gone i hi).2⟩
 ds := ⟨a.ds.1, a.ds.2.1, fun i e => by
  by_cases hi' : i = id
  · rw [if_pos hi'] at e
    have := hn _ e; have := hB s (.inl rfl); omega
  rw [if_neg hi'] at e; exact a.ds.2.2 i e⟩
 dp := ⟨a.dp.1, a.dp.2.1, fun i e => by
  by_cases hi' : i = id
  · rw [if_pos hi'] at e
    have := hn _ e; have := hB p (.inr (.inl rfl)); omega
  rw [if_neg hi'] at e; exact a.dp.2.2 i e⟩
 dt b hb := ⟨(a.dt b hb).1, fun i e => by
  by_cases hi' : i = id
  · rw [if_pos hi'] at e
    have := hn _ e; have := hB b (.inr (.inr (.inl hb))); omega
  rw [if_neg hi'] at e; exact (a.dt b hb).2 i e⟩
 de b hb i e := by
  by_cases hi' : i = id
  · rw [if_pos hi'] at e
    have := hn _ e; have := hB b (.inr (.inr (.inr (.inl hb)))); omega
  rw [if_neg hi'] at e; exact a.de b hb i e
 dh i j b hi hj := by
  by_cases hi' : i = id <;> by_cases hj' : j = id
  · rw [hi', hj']
  · rw [if_pos hi'] at hi; rw [if_neg hj'] at hj
    have := hn _ hi; have := hB b (.inr (.inr (.inr (.inr ⟨j, hj⟩)))); omega
  · rw [if_neg hi'] at hi; rw [if_pos hj'] at hj
    have := hn _ hj; have := hB b (.inr (.inr (.inr (.inr ⟨i, hi⟩)))); omega
  rw [if_neg hi'] at hi; rw [if_neg hj'] at hj
  exact a.dh i j b hi hj
theorem StoreR.setEvents (a : StoreR TA w s t p ev hp FT FH S) {ev' : Value} {E' : List Ev} (hf : Fr (fun b => b = s ∨ ev.ownBlock = some b) w w')
 (ho : Has w' s [.pointer (some ⟨t, 0, none⟩), .map (some p), .int .i64 S.next, .int .i64 S.rev, .int .i64 S.mark, ev']) (he : SlF w' 101 13 evC ev' E') (hn : ∀ b, ev'.ownBlock = some b → ev.ownBlock = some b ∨ w.heap.size ≤ b) :
 StoreR TA w' s t p ev' hp FT FH { S with events := E' } where
 obj := ho
 tree := hT.fr a.tree hf fun b hb e => by
  rcases e with e | e
  · exact a.ds.1 (e ▸ hb)
  exact (a.dt b hb).1 e
 map := a.map.fr hf fun e => by
  rcases e with e | e
  · exact a.map.apart a.obj e
  exact a.dp.2.1 e
 events := he
 hist i H hi := by
  obtain ⟨h, h1, h2⟩ := a.hist i H hi; refine ⟨h, h1, h2.fr hf fun b hb e => ?_⟩; rcases e with e | e
  · exact a.ds.2.2 i (e ▸ hb)
  exact a.de b e i hb
 gone := a.gone
 ds := ⟨a.ds.1, fun e => by rcases hn _ e with h | h
                            · exact a.ds.2.1 h
                            have := a.obj.lt; omega, a.ds.2.2⟩
 dp := ⟨a.dp.1, fun e => by rcases hn _ e with h | h
                            · exact a.dp.2.1 h
                            have := a.map.lt; omega, a.dp.2.2⟩
 dt b hb := ⟨fun e => by rcases hn _ e with h | h
                         · exact (a.dt b hb).1 h
                         have := hT.lt a.tree b hb; omega, (a.dt b hb).2⟩
 de b hb i hi := by
  rcases hn _ hb with h | h
  · exact a.de b h i hi
  have := a.lt hT b (.inr (.inr (.inr (.inr ⟨i, hi⟩)))); omega
 dh := a.dh
end
def st0 : St := { T := [], past := fun _ => none, next := 0, rev := 0, mark := 0, events := [] }
theorem zfk {TA : zao} {N : Nat} (hT : TreeOk TA N) (w : World) : Calls Tryz.prog 17 #[] w fun e w' => ∃ s, e = .returned (.pointer (some ⟨s, 0, none⟩)) ∧ ∃ F, zaj TA w' s st0 F ∧ Fr No w w' ∧ (∀ b, F b → w.heap.size ≤ b) := by
 have hmm : ∀ w, (Instr.makeMap 105 none).run Tryz.prog w = .ok (.map (some w.heap.size)) (w.alloc (.map #[] 0)) := fun w => run_makeMap 105 w; go_enter Tryz.func17, Tryz.ntmps17; go_wp2_with (go_at_call 51; refine (hT.new w).mono ?_; rintro e w1 ⟨t, rfl, FT, ht, hf, hn⟩); go_ret; have hlt := hT.lt ht; have hsz := hf.size; refine ⟨_, rfl, storeF (w1.heap.size + 1) w1.heap.size (.slice none 0 0) FT fun _ _ => False, ⟨t, w1.heap.size, .slice none 0 0, fun _ => none, FT, fun _ _ => False, ?_, fun _ => Iff.rfl⟩, (hf.alloc _).alloc _, ?_⟩
 · exact {
    obj := ⟨107, zad _ _ _ (by simp)⟩
    tree := hT.fr ht (((Fr.refl No w1).alloc _).alloc _) fun _ _ s => s
    map := (MapAt.made w1).alloc _
    events := SlF.nil _ _ _ _
    hist := fun i H h => by simp [st0] at h
    gone := fun i h => ⟨rfl, fun _ h => h⟩
    ds := ⟨fun h => by have := hlt _ h; omega, by simp [Value.ownBlock], fun _ h => h⟩
    dp := ⟨fun h => by have := hlt _ h; omega, by simp [Value.ownBlock], fun _ h => h⟩
    dt := fun b hb => ⟨by simp [Value.ownBlock], fun _ h => h⟩
    de := fun b hb => by simp [Value.ownBlock] at hb
    dh := fun _ _ _ h => h.elim }
 rintro b (rfl | rfl | h | h | ⟨_, h⟩)
 · omega
 · omega
 · exact hn b h
 · simp [Value.ownBlock] at h
 exact h.elim
theorem ziz {TA : zao} (w : World) (s : Nat) (S : St) (F : Nat → Prop) (hS : zaj TA w s S F) : Calls Tryz.prog 19 #[.pointer (some ⟨s, 0, none⟩)] w fun e w' => e = .returned (.int .i64 S.rev) ∧ w = w' := by
 obtain ⟨t, p, ev, hp, FT, FH, a, hF⟩ := hS; have c3 := a.obj.cell 3 rfl; have ls := a.obj.lt; clear a; go_enter Tryz.func19, Tryz.ntmps19; go_wp2; go_ret; exact ⟨rfl, rfl⟩
def whenE (S : St) (rev : Int) : Int := if S.rev < rev then 33 else if rev ≠ 0 ∧ rev < S.mark then 32 else 0
theorem zdg {TA : zao} (w : World) (s : Nat) (S : St) (F : Nat → Prop) (hS : zaj TA w s S F) (rev : Int) : Calls Tryz.prog 84 #[.pointer (some ⟨s, 0, none⟩), .int .i64 rev] w fun e w' => e = .returned (.int .i64 (whenE S rev)) ∧ w = w' := by
 obtain ⟨t, p, ev, hp, FT, FH, a, hF⟩ := hS; have c3 := a.obj.cell 3 rfl; have c4 := a.obj.cell 4 rfl; have ls := a.obj.lt; unfold whenE; clear a; by_cases h1 : S.rev < rev
 · rw [if_pos h1]
   go_enter Tryz.func84, Tryz.ntmps84; go_wp2; go_ret; exact ⟨rfl, rfl⟩
 rw [if_neg h1]
 have h1' : rev ≤ S.rev := (by omega); by_cases h2 : rev = 0
 · subst h2
   go_enter Tryz.func84, Tryz.ntmps84; go_wp2; go_ret; exact ⟨by simp, rfl⟩
 have h2' : (rev == 0) = false := by simpa using h2
 by_cases h3 : rev < S.mark
 · rw [if_pos ⟨h2, h3⟩]
   go_enter Tryz.func84, Tryz.ntmps84; go_wp2; go_ret; exact ⟨rfl, rfl⟩
 rw [if_neg (fun h => h3 h.2)]
 go_enter Tryz.func84, Tryz.ntmps84; go_wp2; go_ret; exact ⟨rfl, rfl⟩
theorem zqn {TA : zao} (w : World) (s : Nat) (S : St) (F : Nat → Prop) (hS : zaj TA w s S F) (v : Value) (hr : S.rev < top) : Calls Tryz.prog 85 #[.pointer (some ⟨s, 0, none⟩), v] w fun e w' => e = .returned (.bool true) ∧ Fr No w w' := by
 obtain ⟨t, p, ev, hp, FT, FH, a, hF⟩ := hS; have c3 := a.obj.cell 3 rfl; have ls := a.obj.lt; have hmf : ∀ (fn : Fn) (first cap : Array Value) (w : World), (Instr.makeFunc fn first cap).run Tryz.prog w = .ok (.func fn first cap) w := fun _ _ _ _ => rfl; unfold top at hr; clear a; go_enter Tryz.func85, Tryz.ntmps85; go_wp2; go_ret; exact ⟨rfl, (Fr.refl No w).alloc _⟩
def sgnI (a b : Int) : Int := if a < b then -1 else if b < a then 1 else 0
def sgnS (a b : ByteArray) : Int := if klt a b then -1 else if klt b a then 1 else 0
theorem zgm (w : World) (a : Int) : Calls Tryz.prog 125 #[.int .i64 a] w fun e w' => e = .returned (.bool false) ∧ w = w' := by
 go_enter Tryz.func125, Tryz.ntmps125; go_wp2; go_ret; exact ⟨by simp, rfl⟩
theorem zgl (w : World) (a : ByteArray) : Calls Tryz.prog 126 #[.string a] w fun e w' => e = .returned (.bool false) ∧ w = w' := by
 go_enter Tryz.func126, Tryz.ntmps126; go_wp2; go_ret; exact ⟨by simp, rfl⟩
theorem zje (w : World) (a b : Int) : Calls Tryz.prog 77 #[.int .i64 a, .int .i64 b] w fun e w' => e = .returned (.int .i64 (sgnI a b)) ∧ w = w' := by
 unfold sgnI; by_cases h1 : a < b
 · rw [if_pos h1]
   go_enter Tryz.func77, Tryz.ntmps77; go_wp2_with (go_at_call 125; refine (zgm _ _).mono ?_; rintro e w' ⟨rfl, rfl⟩); go_ret; exact ⟨rfl, rfl⟩
 rw [if_neg h1]
 by_cases h2 : b < a
 · rw [if_pos h2]
   go_enter Tryz.func77, Tryz.ntmps77; go_wp2_with (go_at_call 125; refine (zgm _ _).mono ?_; rintro e w' ⟨rfl, rfl⟩); go_ret; exact ⟨rfl, rfl⟩
 rw [if_neg h2]
 go_enter Tryz.func77, Tryz.ntmps77; go_wp2_with (go_at_call 125; refine (zgm _ _).mono ?_; rintro e w' ⟨rfl, rfl⟩); go_ret; exact ⟨rfl, rfl⟩
theorem zql (w : World) (a b : ByteArray) : Calls Tryz.prog 78 #[.string a, .string b] w fun e w' => e = .returned (.int .i64 (sgnS a b)) ∧ w = w' := by
 unfold sgnS klt; cases h1 : Op.bytesLess a.toList b.toList
 · cases h2 : Op.bytesLess b.toList a.toList
   · have h3 : (a.toList == b.toList) = true := by
      rcases zdx a b with h | h | h
      · unfold klt at h; rw [h1] at h; cases h
      · rw [h]; simp
      unfold klt at h; rw [h2] at h; cases h
     go_enter Tryz.func78, Tryz.ntmps78; go_wp2_with (go_at_call 126; refine (zgl _ _).mono ?_; rintro e w' ⟨rfl, rfl⟩); go_ret; exact ⟨rfl, rfl⟩
   have h3 : (a.toList == b.toList) = false := by
    have := klt_ne (a := b) (b := a) h2; rw [zbv] at this; exact this
   go_enter Tryz.func78, Tryz.ntmps78; go_wp2_with (go_at_call 126; refine (zgl _ _).mono ?_; rintro e w' ⟨rfl, rfl⟩); go_ret; exact ⟨rfl, rfl⟩
 go_enter Tryz.func78, Tryz.ntmps78
 go_wp2_with (go_at_call 126; refine (zgl _ _).mono ?_; rintro e w' ⟨rfl, rfl⟩); go_ret; exact ⟨rfl, rfl⟩
def sideN (c : Cmp) (x : Kv) : Int := if c.what = 1 then x.version else if c.what = 2 then x.create else if c.what = 3 then x.mod else x.lease
def sidesV (c : Cmp) (x : Kv) : Value :=
 if c.what = 1 ∨ c.what = 2 ∨ c.what = 3 ∨ c.what = 5 then .tuple #[.iface 3 (.int .i64 (sideN c x)), .iface 3 (.int .i64 c.number)] else .tuple #[.iface 9 (.string x.value), .iface 9 (.string c.value)]
theorem znc (w : World) (c : Cmp) (x : Kv) : Calls Tryz.prog 76 #[cmpV c, kvV x] w fun e w' => e = .returned (sidesV c x) ∧ Fr No w w' := by
 obtain ⟨c1, c2, c3, c4, c5⟩ := c; obtain ⟨x1, x2, x3, x4, x5, x6⟩ := x; unfold sidesV sideN cmpV kvV; dsimp only; by_cases h1 : c2 = 1
 · subst h1
   simp only [if_true, true_or]; go_enter Tryz.func76, Tryz.ntmps76; go_wp2
   go_quiet (fail)
   have hq := Fr.drewN No ((w.alloc (Obj.cells #[.string c1, .int .i64 1, .int .i64 c3, .int .i64 c4, .string c5] 53)).alloc (Obj.cells #[.string x1, .string x2, .int .i64 x3, .int .i64 x4, .int .i64 x5, .int .i64 x6] 99)) nq; go_wp2
   go_ret2
   exact ⟨rfl, (((Fr.refl No w).alloc _).alloc _).trans0 hq⟩
 have h1' : (c2 == 1) = false := by simpa using h1
 by_cases h2 : c2 = 2
 · subst h2
   simp only [if_true, true_or, or_true, if_neg h1]; go_enter Tryz.func76, Tryz.ntmps76; go_wp2
   go_quiet (fail)
   have hq := Fr.drewN No ((w.alloc (Obj.cells #[.string c1, .int .i64 2, .int .i64 c3, .int .i64 c4, .string c5] 53)).alloc (Obj.cells #[.string x1, .string x2, .int .i64 x3, .int .i64 x4, .int .i64 x5, .int .i64 x6] 99)) nq; go_wp2
   go_ret2
   exact ⟨rfl, (((Fr.refl No w).alloc _).alloc _).trans0 hq⟩
 have h2' : (c2 == 2) = false := by simpa using h2
 by_cases h3 : c2 = 3
 · subst h3
   simp only [if_true, true_or, or_true, if_neg h1, if_neg h2]; go_enter Tryz.func76, Tryz.ntmps76; go_wp2
   go_quiet (fail)
   have hq := Fr.drewN No ((w.alloc (Obj.cells #[.string c1, .int .i64 3, .int .i64 c3, .int .i64 c4, .string c5] 53)).alloc (Obj.cells #[.string x1, .string x2, .int .i64 x3, .int .i64 x4, .int .i64 x5, .int .i64 x6] 99)) nq; go_wp2
   go_ret2
   exact ⟨rfl, (((Fr.refl No w).alloc _).alloc _).trans0 hq⟩
 have h3' : (c2 == 3) = false := by simpa using h3
 by_cases h5 : c2 = 5
 · subst h5
   simp only [or_true, if_true, if_neg h1, if_neg h2, if_neg h3]; go_enter Tryz.func76, Tryz.ntmps76; go_wp2
   go_quiet (fail)
   have hq := Fr.drewN No ((w.alloc (Obj.cells #[.string c1, .int .i64 5, .int .i64 c3, .int .i64 c4, .string c5] 53)).alloc (Obj.cells #[.string x1, .string x2, .int .i64 x3, .int .i64 x4, .int .i64 x5, .int .i64 x6] 99)) nq; go_wp2
   go_ret2
   exact ⟨rfl, (((Fr.refl No w).alloc _).alloc _).trans0 hq⟩
 have h5' : (c2 == 5) = false := by simpa using h5
 rw [if_neg (by simp [h1, h2, h3, h5])]; go_enter Tryz.func76, Tryz.ntmps76; go_wp2
 go_quiet (fail)
 have hq := Fr.drewN No ((w.alloc (Obj.cells #[.string c1, .int .i64 c2, .int .i64 c3, .int .i64 c4, .string c5] 53)).alloc (Obj.cells #[.string x1, .string x2, .int .i64 x3, .int .i64 x4, .int .i64 x5, .int .i64 x6] 99)) nq; go_wp2
 go_ret2
 exact ⟨rfl, (((Fr.refl No w).alloc _).alloc _).trans0 hq⟩
theorem zib {TA : zao} {N : Nat} (_ : TreeOk TA N) {n : Nat} (hn : n ≤ 1099511627) (w : World) (s : Nat) (S : St) (F : Nat → Prop) (hS : zaj TA w s S F) (hok : StOk n S) (at_ rev : Int) (H : Hist) (hH : S.past at_ = some H) :
 Calls Tryz.prog 62 #[.pointer (some ⟨s, 0, none⟩), .int .i64 at_, .int .i64 rev] w fun e w' => e = .returned (zch (hadH H rev)) ∧ Fr No w w' := by
 obtain ⟨t, p, ev, hp, FT, FH, a, hF⟩ := hS; obtain ⟨h, hh, g, m, FK, b, hFH⟩ := a.hist _ _ hH; have hHok := (hok.hist _ _ hH).1; have hids := hok.ids _ _ hH; have hnx := hok.next; have hwf : (Lit.int .i64 at_).wf = true := wf64 (by omega) (by omega); have hwf2 := hHok.wf rev; have hfit := hHok.fits hn; have hat := fun W hk => zqe W g H.gens H.last rev FK hk hfit; have hpl : ((hp at_).map fun h => Value.pointer (some ⟨h, 0, none⟩)).getD (.pointer none) = .pointer (some ⟨h, 0, none⟩) := by rw [hh]; rfl
 have hkl : ((H.kvs (atK H.gens rev).1.2.1).map kvV).getD (kvV kv0) = kvV (hadH H rev).1 := by unfold hadH; cases H.kvs (atK H.gens rev).1.2.1 <;> rfl
 have c1 := a.obj.cell 1 rfl; have h0 := b.obj.cell 0 rfl; have h1 := b.obj.cell 1 rfl; have l1 := a.obj.lt; have l2 := b.obj.lt; have l3 := b.map.lt; have HM := H_ a.map; have HK := H_ b.key; have HN := H_ b.map; have HKl := H_ hkl; have HPl := H_ hpl
 have HAt := H_ hat; have hb2 : (hadH H rev).2 = (atK H.gens rev).2 := rfl; have HB2 := H_ hb2; generalize hadH H rev = r at *; generalize hs : atK H.gens rev = q at *; clear a b hkl hpl hat hb2 hfit hH; obtain ⟨⟨q1, q2, q3⟩, q4⟩ := q; obtain ⟨⟨r1, r2, r3, r4, r5, r6⟩, rb⟩ := r; go_enter Tryz.func62, Tryz.ntmps62
 go_wp2_with (first
  | (at_lookup; refine zfm rfl _ _ 105 rfl 3 167 Tryz.underlying105 Tryz.underlying3 p _ rfl (HM.out.alloc _) at_ rfl hwf _ (zero142 _) _ HPl.out ?_)
  | (at_lookup; refine zfm rfl _ _ 169 rfl 3 99 Tryz.underlying169 Tryz.underlying3 m _ rfl (by first | exact HN2.out.alloc _ | exact HN2.out) q2 rfl hwf2 _ (zero57 _) _ HKl.out ?_)
  | (go_at_call 115; refine (HAt.out _ (HK.out.fr ((Fr.refl No w).alloc _) (fun _ _ s => s))).mono ?_; rintro e w1 ⟨rfl, hf1⟩
     have hf2 : Fr No w w1 := ((Fr.refl No w).alloc _).trans0 hf1; have h1' := hf2.cell0 h1; have hsz : w.heap.size + 1 ≤ w1.heap.size := (by have := hf1.size; simpa using this); have HN2 := H_ (HN.out.fr hf2 id); have k6 : w1.heap[w.heap.size]? = some (.cells #[.string ByteArray.empty, .string ByteArray.empty, .int .i64 0, .int .i64 0, .int .i64 0, .int .i64 0] 99 (0, 0)) := hf1.heap (zad _ _ _ rfl) id; unfold zhl seenV))
 have n0 := zad w1 (Obj.cells #[Value.int .i64 q1, Value.int .i64 q2, Value.int .i64 q3] 190) _ rfl; generalize hX : w1.alloc (Obj.cells #[Value.int .i64 q1, Value.int .i64 q2, Value.int .i64 q3] 190) = X at n0; have hfX : Fr No w X := by rw [← hX]; exact hf2.alloc _
 have k6X : X.heap[w.heap.size]? = some (.cells #[.string ByteArray.empty, .string ByteArray.empty, .int .i64 0, .int .i64 0, .int .i64 0, .int .i64 0] 99 (0, 0)) := by rw [← hX]; exact zal k6 _
 have n1 : X.cell? ⟨w1.heap.size, 1, none⟩ = some (.int .i64 q2) := by simp [World.cell?, n0]
 have e1 := hfX.cell0 h1; have hlk := MapAt.look (P := Tryz.prog) (t := 169) (HN.out.fr (hfX.drew) id) Tryz.underlying169 Tryz.underlying3 hwf2 (zero57 _); rw [HKl.out] at hlk; unfold kvV at hlk; have hlt : w.heap.size < X.heap.size := zaa k6X; have hlt1 : w1.heap.size < X.heap.size := zaa n0; have hl2 : h < X.heap.size := by have := hfX.size; omega
 have n1Y : X.drew.cell? ⟨w1.heap.size, 1, none⟩ = some (.int .i64 q2) := n1; have e1Y : X.drew.cell? ⟨h, 1, none⟩ = some (.map (some m)) := e1; have k6Y : X.drew.heap[w.heap.size]? = some (.cells #[.string ByteArray.empty, .string ByteArray.empty, .int .i64 0, .int .i64 0, .int .i64 0, .int .i64 0] 99 (0, 0)) := k6X; have hfY : Fr No w X.drew := hfX.drew; have k0 : X.cell? ⟨w.heap.size, 0, none⟩ = some (.string ByteArray.empty) := by simp [World.cell?, k6X]
 have k1 : X.cell? ⟨w.heap.size, 1, none⟩ = some (.string ByteArray.empty) := by simp [World.cell?, k6X]
 have k2 : X.cell? ⟨w.heap.size, 2, none⟩ = some (.int .i64 0) := by simp [World.cell?, k6X]
 have k3 : X.cell? ⟨w.heap.size, 3, none⟩ = some (.int .i64 0) := by simp [World.cell?, k6X]
 have k4 : X.cell? ⟨w.heap.size, 4, none⟩ = some (.int .i64 0) := by simp [World.cell?, k6X]
 have k5 : X.cell? ⟨w.heap.size, 5, none⟩ = some (.int .i64 0) := by simp [World.cell?, k6X]
 have kf : ∀ i, X.frozen? ⟨w.heap.size, i, none⟩ = false := fun i => by simp [World.frozen?, k6X]
 have hne1 : w1.heap.size ≠ w.heap.size := by omega
 have hne2 : h ≠ w.heap.size := by omega
 have HS : ∀ W, Fr (fun b => b = w.heap.size) X W → W.cell? ⟨h, 1, none⟩ = some (.map (some m)) ∧ W.cell? ⟨w1.heap.size, 1, none⟩ = some (.int .i64 q2) ∧
  (Instr.lookup 169 (.map (some m)) (.int .i64 q2) false).run Tryz.prog W = .ok (.agg #[.string r1, .string r2, .int .i64 r3, .int .i64 r4, .int .i64 r5, .int .i64 r6]) W := by
  intro W hW; refine ⟨hW.cell e1 hne2, hW.cell n1 hne1, ?_⟩; have := MapAt.look (P := Tryz.prog) (t := 169) ((HN.out.fr hfX id).fr hW (by omega)) Tryz.underlying169 Tryz.underlying3 hwf2 (zero57 _); rw [HKl.out] at this; exact this
 have HS' := H_ HS; clear HS hX h1' hlk n1Y e1Y n0 n1
 go_region_held (fun W => W.cell? ⟨h, 1, none⟩ = some (.map (some m)) ∧ W.cell? ⟨w1.heap.size, 1, none⟩ = some (.int .i64 q2) ∧
  (Instr.lookup 169 (.map (some m)) (.int .i64 q2) false).run Tryz.prog W = .ok (.agg #[.string r1, .string r2, .int .i64 r3, .int .i64 r4, .int .i64 r5, .int .i64 r6]) W)
  (first | (refine HS'.out _ (Fr.drew ?_); with_reducible exact Fr.refl _ X) | (refine HS'.out _ (Fr.drew ?_); (iterate 6 (with_reducible refine Fr.setAt ?_ _ _)); with_reducible exact Fr.refl _ X)) (fail)
 have z1 := zac k6X 0 (.string r1); have z2 := zac z1 1 (.string r2); have z3 := zac z2 2 (.int .i64 r3); have z4 := zac z3 3 (.int .i64 r4); have z5 := zac z4 4 (.int .i64 r5); have z6 := zac z5 5 (.int .i64 r6)
 have hfZ : Fr (fun b => b = w.heap.size) X ((((((X.setCell ⟨w.heap.size, 0, none⟩ (.string r1)).setCell ⟨w.heap.size, 1, none⟩ (.string r2)).setCell ⟨w.heap.size, 2, none⟩ (.int .i64 r3)).setCell ⟨w.heap.size, 3, none⟩ (.int .i64 r4)).setCell ⟨w.heap.size, 4, none⟩ (.int .i64 r5)).setCell ⟨w.heap.size, 5, none⟩ (.int .i64 r6)) :=
  (((((((Fr.refl _ X).setAt 0 _).setAt 1 _).setAt 2 _).setAt 3 _).setAt 4 _).setAt 5 _)
 generalize ((((((X.setCell ⟨w.heap.size, 0, none⟩ (.string r1)).setCell ⟨w.heap.size, 1, none⟩ (.string r2)).setCell ⟨w.heap.size, 2, none⟩ (.int .i64 r3)).setCell ⟨w.heap.size, 3, none⟩ (.int .i64 r4)).setCell ⟨w.heap.size, 4, none⟩ (.int .i64 r5)).setCell ⟨w.heap.size, 5, none⟩ (.int .i64 r6)) = Z at z6 hfZ ⊢
 simp at z6; have y0 : Z.cell? ⟨w.heap.size, 0, none⟩ = some (.string r1) := by simp [World.cell?, z6]
 have y1 : Z.cell? ⟨w.heap.size, 1, none⟩ = some (.string r2) := by simp [World.cell?, z6]
 have y2 : Z.cell? ⟨w.heap.size, 2, none⟩ = some (.int .i64 r3) := by simp [World.cell?, z6]
 have y3 : Z.cell? ⟨w.heap.size, 3, none⟩ = some (.int .i64 r4) := by simp [World.cell?, z6]
 have y4 : Z.cell? ⟨w.heap.size, 4, none⟩ = some (.int .i64 r5) := by simp [World.cell?, z6]
 have y5 : Z.cell? ⟨w.heap.size, 5, none⟩ = some (.int .i64 r6) := by simp [World.cell?, z6]
 have hfin : Fr No w Z.drew := by
  have hfF : Fr No w Z := ⟨hfZ.os.trans hfX.os, hfZ.tape.trans hfX.tape, hfZ.output.trans hfX.output, Nat.le_trans hfX.size hfZ.size, fun k hk _ => (hfZ.block k (Nat.lt_of_lt_of_le hk hfX.size) (by omega)).trans (hfX.block k hk id)⟩; exact hfF.drew
 clear z1 z2 z3 z4 z5 z6 hfZ k0 k1 k2 k3 k4 k5 kf HS'; go_wp2; have hrb : rb = q4 := HB2.out; subst hrb; refine bodyPost_ret (v := zch (⟨r1, r2, r3, r4, r5, r6⟩, rb)) (w := Z.drew) (by rw [results_cell_tmp rfl]; go_simp; rfl) rfl ⟨rfl, hfin⟩
def livesS (S : St) (key : ByteArray) (rev : Int) : Kv × Bool :=
 if (getT S.T key).2 then match S.past (getT S.T key).1 with
  | some H => hadH H rev
  | none => (kv0, false)
 else (kv0, false)
theorem zes {w X : World} {b : Nat} {a0 a1 a2 a3 a4 a5 : Value} (hk : X.heap[b]? = some (.cells #[a0, a1, a2, a3, a4, a5] 99 (0, 0))) (r : Kv) :
 ∃ Z, ((((((X.setCell ⟨b, 0, none⟩ (.string r.key)).setCell ⟨b, 1, none⟩ (.string r.value)).setCell ⟨b, 2, none⟩ (.int .i64 r.create)).setCell ⟨b, 3, none⟩ (.int .i64 r.mod)).setCell ⟨b, 4, none⟩ (.int .i64 r.version)).setCell ⟨b, 5, none⟩ (.int .i64 r.lease)) = Z ∧
  Z.heap[b]? = some (.cells #[.string r.key, .string r.value, .int .i64 r.create, .int .i64 r.mod, .int .i64 r.version, .int .i64 r.lease] 99 (0, 0)) ∧ (Fr No w X → w.heap.size ≤ b → Fr No w Z) := by
 have z1 := zac hk 0 (.string r.key); have z2 := zac z1 1 (.string r.value); have z3 := zac z2 2 (.int .i64 r.create); have z4 := zac z3 3 (.int .i64 r.mod); have z5 := zac z4 4 (.int .i64 r.version); have z6 := zac z5 5 (.int .i64 r.lease); have hfZ := (((((((Fr.refl (fun x => x = b) X).setAt 0 (.string r.key)).setAt 1 (.string r.value)).setAt 2 (.int .i64 r.create)).setAt 3 (.int .i64 r.mod)).setAt 4 (.int .i64 r.version)).setAt 5 (.int .i64 r.lease)); clear z1 z2 z3 z4 z5; generalize ((((((X.setCell ⟨b, 0, none⟩ (.string r.key)).setCell ⟨b, 1, none⟩ (.string r.value)).setCell ⟨b, 2, none⟩ (.int .i64 r.create)).setCell ⟨b, 3, none⟩ (.int .i64 r.mod)).setCell ⟨b, 4, none⟩ (.int .i64 r.version)).setCell ⟨b, 5, none⟩ (.int .i64 r.lease)) = Z at *; refine ⟨Z, rfl, ?_, fun hf hb => hf.trans hfZ fun j hj e => ?_⟩
 · rw [z6]; simp
 have e' : j = b := e
 omega
theorem zhu {TA : zao} {N : Nat} (hT : TreeOk TA N) {n : Nat} (hn : n ≤ 1099511627) (w : World) (s : Nat) (S : St) (F : Nat → Prop) (hS : zaj TA w s S F) (hok : StOk n S) (key : ByteArray) (rev : Int) :
 Calls Tryz.prog 66 #[.pointer (some ⟨s, 0, none⟩), .string key, .int .i64 rev] w fun e w' => e = .returned (zch (livesS S key rev)) ∧ Fr No w w' := by
 have hhad := fun W hW at_ H hH => zib hT hn W s S F hW hok at_ rev H hH; have hSA := H_ hS; obtain ⟨t, p, ev, hp, FT, FH, a, hF⟩ := hS; have c0 := a.obj.cell 0 rfl; have l1 := a.obj.lt; have hget := fun W hW => hT.get (w := W) (t := t) (T := S.T) (F := FT) key hW; have HT := H_ a.tree; have HG := H_ hget; have HH := H_ hhad; have hl : livesS S key rev = livesS S key rev := rfl
 have hid : (getT S.T key).2 = true → ∃ H, S.past (getT S.T key).1 = some H := by
  unfold getT
  cases hf : S.T.find? (fun p => keq p.1 key) with
  | none => intro h; cases h
  | some q => intro _; exact hok.id q (List.mem_of_find?_eq_some hf)
 unfold livesS at hl ⊢
 generalize getT S.T key = g at *; obtain ⟨g1, g2⟩ := g; have HI := H_ hid; clear a hget hhad hid hl; cases g2
 · go_enter Tryz.func66, Tryz.ntmps66
   go_wp2_with (first
    | (go_at_call 121; refine (HG.out _ (hT.fr HT.out ((Fr.refl No w).alloc _) (fun _ _ s => s))).mono ?_; rintro e w1 ⟨rfl, hf1⟩
       have hf2 : Fr No w w1 := ((Fr.refl No w).alloc _).trans0 hf1; have k6 : w1.heap[w.heap.size]? = some (.cells #[.string ByteArray.empty, .string ByteArray.empty, .int .i64 0, .int .i64 0, .int .i64 0, .int .i64 0] 99 (0, 0)) := hf1.heap (zad _ _ _ rfl) id; have k0 : w1.cell? ⟨w.heap.size, 0, none⟩ = some (.string ByteArray.empty) := (by simp [World.cell?, k6]); have k1 : w1.cell? ⟨w.heap.size, 1, none⟩ = some (.string ByteArray.empty) := (by simp [World.cell?, k6]); have k2 : w1.cell? ⟨w.heap.size, 2, none⟩ = some (.int .i64 0) := (by simp [World.cell?, k6]); have k3 : w1.cell? ⟨w.heap.size, 3, none⟩ = some (.int .i64 0) := (by simp [World.cell?, k6]); have k4 : w1.cell? ⟨w.heap.size, 4, none⟩ = some (.int .i64 0) := (by simp [World.cell?, k6]); have k5 : w1.cell? ⟨w.heap.size, 5, none⟩ = some (.int .i64 0) := (by simp [World.cell?, k6])
       have kf : ∀ i, w1.frozen? ⟨w.heap.size, i, none⟩ = false := fun i => by simp [World.frozen?, k6]
       unfold zck))
   obtain ⟨Z, hZ, z6, hzf⟩ := zes (w := w) k6 ⟨⟨#[]⟩, ⟨#[]⟩, 0, 0, 0, 0⟩; dsimp only at hZ z6; rw [hZ]; have y0 : Z.cell? ⟨w.heap.size, 0, none⟩ = some (.string ⟨#[]⟩) := (by simp [World.cell?, z6]); have y1 : Z.cell? ⟨w.heap.size, 1, none⟩ = some (.string ⟨#[]⟩) := (by simp [World.cell?, z6]); have y2 : Z.cell? ⟨w.heap.size, 2, none⟩ = some (.int .i64 0) := (by simp [World.cell?, z6]); have y3 : Z.cell? ⟨w.heap.size, 3, none⟩ = some (.int .i64 0) := (by simp [World.cell?, z6]); have y4 : Z.cell? ⟨w.heap.size, 4, none⟩ = some (.int .i64 0) := (by simp [World.cell?, z6]); have y5 : Z.cell? ⟨w.heap.size, 5, none⟩ = some (.int .i64 0) := (by simp [World.cell?, z6]); clear hZ; refine bodyPost_ret (v := zch (kv0, false)) (w := Z) (by rw [results_cell_tmp rfl]; go_simp; rfl) rfl ⟨rfl, hzf hf2 (Nat.le_refl _)⟩
 obtain ⟨H, hH⟩ := HI.out rfl
 simp only [if_true, hH]; generalize hr : hadH H rev = r at *; obtain ⟨⟨r1, r2, r3, r4, r5, r6⟩, rb⟩ := r; have HR := H_ hr; have HP := H_ hH; clear hr hH; go_enter Tryz.func66, Tryz.ntmps66
 go_wp2_with (first
  | (go_at_call 121; refine (HG.out _ (hT.fr HT.out ((Fr.refl No w).alloc _) (fun _ _ s => s))).mono ?_; rintro e w1 ⟨rfl, hf1⟩
     have hf2 : Fr No w w1 := ((Fr.refl No w).alloc _).trans0 hf1; have k6' : w1.heap[w.heap.size]? = some (.cells #[.string ByteArray.empty, .string ByteArray.empty, .int .i64 0, .int .i64 0, .int .i64 0, .int .i64 0] 99 (0, 0)) := hf1.heap (zad _ _ _ rfl) id; unfold zck)
  | (go_at_call 62; refine (HH.out _ (hSA.out.fr0 hT hf2) g1 H HP.out).mono ?_; rintro e w2 ⟨rfl, hf3⟩
     rw [HR.out]; have hf4 : Fr No w w2 := hf2.trans0 hf3; have k6 : w2.heap[w.heap.size]? = some (.cells #[.string ByteArray.empty, .string ByteArray.empty, .int .i64 0, .int .i64 0, .int .i64 0, .int .i64 0] 99 (0, 0)) := hf3.heap k6' id; have k0 : w2.cell? ⟨w.heap.size, 0, none⟩ = some (.string ByteArray.empty) := (by simp [World.cell?, k6]); have k1 : w2.cell? ⟨w.heap.size, 1, none⟩ = some (.string ByteArray.empty) := (by simp [World.cell?, k6]); have k2 : w2.cell? ⟨w.heap.size, 2, none⟩ = some (.int .i64 0) := (by simp [World.cell?, k6]); have k3 : w2.cell? ⟨w.heap.size, 3, none⟩ = some (.int .i64 0) := (by simp [World.cell?, k6]); have k4 : w2.cell? ⟨w.heap.size, 4, none⟩ = some (.int .i64 0) := (by simp [World.cell?, k6]); have k5 : w2.cell? ⟨w.heap.size, 5, none⟩ = some (.int .i64 0) := (by simp [World.cell?, k6])
     have kf : ∀ i, w2.frozen? ⟨w.heap.size, i, none⟩ = false := fun i => by simp [World.frozen?, k6]
     unfold zch kvV))
 obtain ⟨Z, hZ, z6, hzf⟩ := zes (w := w) k6 ⟨r1, r2, r3, r4, r5, r6⟩; dsimp only at hZ z6; rw [hZ]; have y0 : Z.cell? ⟨w.heap.size, 0, none⟩ = some (.string r1) := (by simp [World.cell?, z6]); have y1 : Z.cell? ⟨w.heap.size, 1, none⟩ = some (.string r2) := (by simp [World.cell?, z6]); have y2 : Z.cell? ⟨w.heap.size, 2, none⟩ = some (.int .i64 r3) := (by simp [World.cell?, z6]); have y3 : Z.cell? ⟨w.heap.size, 3, none⟩ = some (.int .i64 r4) := (by simp [World.cell?, z6]); have y4 : Z.cell? ⟨w.heap.size, 4, none⟩ = some (.int .i64 r5) := (by simp [World.cell?, z6]); have y5 : Z.cell? ⟨w.heap.size, 5, none⟩ = some (.int .i64 r6) := (by simp [World.cell?, z6]); clear hZ; refine bodyPost_ret (v := zch (⟨r1, r2, r3, r4, r5, r6⟩, rb)) (w := Z) (by rw [results_cell_tmp rfl]; go_simp; rfl) rfl ⟨rfl, hzf hf4 (Nat.le_refl _)⟩
end Go.Proofs.YthljnnjpmdgkoaaGreat