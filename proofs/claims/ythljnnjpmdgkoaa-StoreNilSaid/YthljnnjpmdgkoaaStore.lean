/- The store's form in memory: pairs of keys (Kv), events (Ev), histories (HistAt), the store (StoreR), over any tree that has TreeOk; and 'had', 'lives'. The condition: histories are small (HistOk). -/
import Derived.Test.YthljnnjpmdgkoaaTree
import Derived.Test.YthljnnjpmdgkoaaLib3
import Derived.Test.YthljnnjpmdgkoaaBack
namespace Go.Proofs.Ythljnnjpmdgkoaa
open Go Go.Proofs Go.RowKit
set_option maxRecDepth 100000

structure Kv where
  key : ByteArray
  value : ByteArray
  create : Int
  mod : Int
  version : Int
  lease : Int
def kv0 : Kv := ⟨ByteArray.empty, ByteArray.empty, 0, 0, 0, 0⟩
def kvC (x : Kv) : List Value := [.string x.key, .string x.value, .int .i64 x.create, .int .i64 x.mod, .int .i64 x.version, .int .i64 x.lease]
def kvV (x : Kv) : Value := .agg #[.string x.key, .string x.value, .int .i64 x.create, .int .i64 x.mod, .int .i64 x.version, .int .i64 x.lease]
theorem kvC_length (x : Kv) : (kvC x).length = 6 := rfl
structure Ev where
  kind : Int
  kv : Kv
  prev : Kv
def evC (x : Ev) : List Value := .int .i64 x.kind :: (kvC x.kv ++ kvC x.prev)
theorem evC_length (x : Ev) : (evC x).length = 13 := rfl
def evV (x : Ev) : Value := .agg #[.int .i64 x.kind, .string x.kv.key, .string x.kv.value, .int .i64 x.kv.create, .int .i64 x.kv.mod, .int .i64 x.kv.version, .int .i64 x.kv.lease, .string x.prev.key, .string x.prev.value, .int .i64 x.prev.create, .int .i64 x.prev.mod, .int .i64 x.prev.version, .int .i64 x.prev.lease]

/-- A key's changes, and what it had at each. -/
structure Hist where
  gens : List Gen
  last : Int
  kvs : Int → Option Kv
/-- What a history shows at a revision. -/
def hadH (H : Hist) (rev : Int) : Kv × Bool := ((H.kvs (atK H.gens rev).1.2.1).getD kv0, (atK H.gens rev).2)

def top : Int := 1099511627776
/-- A history of at most n changes. -/
structure HistOk (n : Nat) (H : Hist) : Prop where
  len : H.gens.length ≤ n
  puts : ∀ x ∈ H.gens, x.puts.length ≤ n ∧ 0 ≤ x.cut ∧ x.cut ≤ top ∧ (∀ p ∈ x.puts, 1 ≤ p ∧ p ≤ top)
theorem HistOk.fits {n : Nat} {H : Hist} (h : HistOk n H) (hn : n ≤ 1099511627) : Fits H.gens :=
  ⟨Nat.le_trans h.len hn, fun x hx => ⟨Nat.le_trans (h.puts x hx).1 hn, (h.puts x hx).2.1, (h.puts x hx).2.2.1⟩⟩
theorem wf64 {a : Int} (h0 : -9223372036854775808 ≤ a) (h1 : a ≤ 9223372036854775807) : (Lit.int .i64 a).wf = true := by
  simp [Lit.wf, IntKind.min, IntKind.max, IntKind.signed, IntKind.bits]
  omega
theorem HistOk.wf {n : Nat} {H : Hist} (h : HistOk n H) (rev : Int) : (Lit.int .i64 (atK H.gens rev).1.2.1).wf = true := by
  have key : 0 ≤ (atK H.gens rev).1.2.1 ∧ (atK H.gens rev).1.2.1 ≤ top := by
    unfold atK
    split
    · simp [top]
    · rename_i x hx
      have hm := List.mem_of_find?_eq_some hx
      rw [List.mem_reverse] at hm
      split
      · simp [top]
      · dsimp only
        cases hp : x.puts[upTo x.puts rev - 1]? with
        | none => simp [top]
        | some p =>
          have := (h.puts x hm).2.2.2 p (List.mem_of_getElem? hp)
          simp; omega
  unfold top at key
  exact wf64 (by omega) (by omega)

structure HistR (w : World) (h g m : Nat) (FK : Nat → Prop) (H : Hist) : Prop where
  obj : Has w h [.pointer (some ⟨g, 0, none⟩), .map (some m)]
  key : KeyAt w g H.gens H.last FK
  map : MapAt w m fun r => (H.kvs r).map kvV
  d1 : ¬ FK h
  d2 : ¬ FK m
def HistAt (w : World) (h : Nat) (H : Hist) (F : Nat → Prop) : Prop := ∃ g m FK, HistR w h g m FK H ∧ ∀ b, F b ↔ (b = h ∨ b = m ∨ FK b)
theorem HistAt.lt {w : World} {h : Nat} {H : Hist} {F : Nat → Prop} (a : HistAt w h H F) : ∀ b, F b → b < w.heap.size := by
  obtain ⟨g, m, FK, a, hF⟩ := a
  intro b hb
  rcases (hF b).1 hb with rfl | rfl | e
  · exact a.obj.lt
  · exact a.map.lt
  · exact a.key.lt b e
theorem HistR.fr {w w' : World} {h g m : Nat} {H : Hist} {FK S : Nat → Prop} (a : HistR w h g m FK H) (hf : Fr S w w') (h1 : ¬ S h) (h2 : ¬ S m) (h3 : ∀ b, FK b → ¬ S b) : HistR w' h g m FK H :=
  ⟨a.obj.fr hf h1, a.key.fr hf h3, a.map.fr hf h2, a.d1, a.d2⟩
theorem HistAt.fr {w w' : World} {h : Nat} {H : Hist} {F S : Nat → Prop} (a : HistAt w h H F) (hf : Fr S w w') (hn : ∀ b, F b → ¬ S b) : HistAt w' h H F := by
  obtain ⟨g, m, FK, a, hF⟩ := a
  exact ⟨g, m, FK, a.fr hf (hn _ ((hF _).2 (.inl rfl))) (hn _ ((hF _).2 (.inr (.inl rfl)))) (fun b hb => hn b ((hF b).2 (.inr (.inr hb)))), hF⟩

/-- What a store has. -/
structure St where
  T : Pairs
  past : Int → Option Hist
  next : Int
  rev : Int
  mark : Int
  events : List Ev
/-- At most n changes so far; every key of the tree has its history, at a number of its own. -/
structure StOk (n : Nat) (S : St) : Prop where
  pos : 0 ≤ S.next
  next : S.next ≤ n
  id : ∀ p ∈ S.T, ∃ H, S.past p.2 = some H
  ids : ∀ i H, S.past i = some H → 0 ≤ i ∧ i < S.next
  hist : ∀ i H, S.past i = some H → HistOk n H ∧ H.last ≤ top
  rev0 : -top ≤ S.rev
  rev1 : S.rev ≤ top
  mark0 : 0 ≤ S.mark
  ev : S.events.length ≤ n

structure StoreR (TA : TreeRel) (w : World) (s t p : Nat) (ev : Value) (hp : Int → Option Nat) (FT : Nat → Prop) (FH : Int → Nat → Prop) (S : St) : Prop where
  obj : Has w s [.pointer (some ⟨t, 0, none⟩), .map (some p), .int .i64 S.next, .int .i64 S.rev, .int .i64 S.mark, ev]
  tree : TA w t S.T FT
  map : MapAt w p fun i => (hp i).map fun h => .pointer (some ⟨h, 0, none⟩)
  events : SlF w 73 13 evC ev S.events
  hist : ∀ i H, S.past i = some H → ∃ h, hp i = some h ∧ HistAt w h H (FH i)
  gone : ∀ i, S.past i = none → hp i = none ∧ ∀ b, ¬ FH i b
  ds : ¬ FT s ∧ ev.ownBlock ≠ some s ∧ ∀ i, ¬ FH i s
  dp : ¬ FT p ∧ ev.ownBlock ≠ some p ∧ ∀ i, ¬ FH i p
  dt : ∀ b, FT b → ev.ownBlock ≠ some b ∧ ∀ i, ¬ FH i b
  de : ∀ b, ev.ownBlock = some b → ∀ i, ¬ FH i b
  dh : ∀ i j b, FH i b → FH j b → i = j
def storeF (s p : Nat) (ev : Value) (FT : Nat → Prop) (FH : Int → Nat → Prop) (b : Nat) : Prop := b = s ∨ b = p ∨ FT b ∨ ev.ownBlock = some b ∨ ∃ i, FH i b
def StoreAt (TA : TreeRel) (w : World) (s : Nat) (S : St) (F : Nat → Prop) : Prop :=
  ∃ t p ev hp FT FH, StoreR TA w s t p ev hp FT FH S ∧ ∀ b, F b ↔ storeF s p ev FT FH b

section
variable {TA : TreeRel} {N : Nat} (hT : TreeOk TA N)
include hT
theorem StoreR.fr {w w' : World} {s t p : Nat} {ev : Value} {hp : Int → Option Nat} {FT : Nat → Prop} {FH : Int → Nat → Prop} {S : St} {X : Nat → Prop} (a : StoreR TA w s t p ev hp FT FH S) (hf : Fr X w w')
    (hn : ∀ b, storeF s p ev FT FH b → ¬ X b) : StoreR TA w' s t p ev hp FT FH S where
  obj := a.obj.fr hf (hn _ (.inl rfl))
  tree := hT.fr a.tree hf fun b hb => hn b (.inr (.inr (.inl hb)))
  map := a.map.fr hf (hn _ (.inr (.inl rfl)))
  events := a.events.fr hf fun b hb => hn b (.inr (.inr (.inr (.inl hb))))
  hist i H hi := by
    obtain ⟨h, h1, h2⟩ := a.hist i H hi
    exact ⟨h, h1, h2.fr hf fun b hb => hn b (.inr (.inr (.inr (.inr ⟨i, hb⟩))))⟩
  gone := a.gone
  ds := a.ds
  dp := a.dp
  dt := a.dt
  de := a.de
  dh := a.dh
theorem StoreR.lt {w : World} {s t p : Nat} {ev : Value} {hp : Int → Option Nat} {FT : Nat → Prop} {FH : Int → Nat → Prop} {S : St} (a : StoreR TA w s t p ev hp FT FH S) : ∀ b, storeF s p ev FT FH b → b < w.heap.size := by
  rintro b (rfl | rfl | e | e | ⟨i, e⟩)
  · exact a.obj.lt
  · exact a.map.lt
  · exact hT.lt a.tree b e
  · exact a.events.lt b e
  · cases h : S.past i with
    | none => exact absurd e ((a.gone i h).2 b)
    | some H =>
      obtain ⟨h, _, h2⟩ := a.hist i H h
      exact h2.lt b e
theorem StoreAt.fr {w w' : World} {s : Nat} {S : St} {F X : Nat → Prop} (a : StoreAt TA w s S F) (hf : Fr X w w') (hn : ∀ b, F b → ¬ X b) : StoreAt TA w' s S F := by
  obtain ⟨t, p, ev, hp, FT, FH, a, hF⟩ := a
  exact ⟨t, p, ev, hp, FT, FH, a.fr hT hf (fun b hb => hn b ((hF b).2 hb)), hF⟩
theorem StoreAt.fr0 {w w' : World} {s : Nat} {S : St} {F : Nat → Prop} (a : StoreAt TA w s S F) (hf : Fr No w w') : StoreAt TA w' s S F := a.fr hT hf fun _ _ s => s
theorem StoreAt.lt {w : World} {s : Nat} {S : St} {F : Nat → Prop} (a : StoreAt TA w s S F) : ∀ b, F b → b < w.heap.size := by
  obtain ⟨t, p, ev, hp, FT, FH, a, hF⟩ := a
  exact fun b hb => a.lt hT b ((hF b).1 hb)
end

def kvTuple (r : Kv × Bool) : Value := .tuple #[kvV r.1, .bool r.2]
theorem zero57 (w : World) : (zeroValue 57).run Try.prog w = .ok (kvV kv0) w := by kernel_rfl
theorem zero142 (w : World) : (zeroValue 142).run Try.prog w = .ok (.pointer none) w := by kernel_rfl

end Go.Proofs.Ythljnnjpmdgkoaa
