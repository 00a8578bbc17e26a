/- The loop of the store's Apply over its ops, in memory (LoopR), and its step. Plain facts; no program is run. -/
import Derived.Test.YthljnnjpmdgkoaaAns
namespace Go.Proofs.Ythljnnjpmdgkoaa
open Go Go.Proofs Go.RowKit
set_option maxRecDepth 100000

/-- What an op asks of the run ahead of it. -/
structure StepOk (N n : Nat) (rev : Int) (r : Run) (o : Opr) : Prop where
  st : StOk n r.S
  tree : r.S.T.length ≤ 1099511627
  evs : r.E.length ≤ 1099511627
  ans : r.A.length ≤ 1099511627
  key : o.rg.key.size ≤ 1099511627776
  put : o.kind = 1 → 0 ≤ (livesS r.S o.rg.key rev).1.version ∧ (livesS r.S o.rg.key rev).1.version ≤ top ∧ DoOk N r.S (puttingS r.S o rev)
  get : o.kind = 3 → o.rg.desc = false ∧ o.rg.keys = false
  del : o.kind ≠ 2

/-- The loop of Apply over its ops: what lies in memory ahead of an op. -/
structure LoopR (TA : TreeRel) (w0 w : World) (s sb vb : Nat) (F0 : Nat → Prop) (r : Run) (F : Nat → Prop) (ev out : Value) (Z : List (Ans × Value)) : Prop where
  fr : Fr F0 w0 w
  store : StoreAt TA w s r.S F
  box : Has w sb [.pointer (some ⟨s, 0, none⟩)]
  evs : Has w vb [ev]
  evl : SlF w 73 13 evC ev r.E
  ans : AnsR w out Z
  eqs : Z.map (·.1) = r.A
  new : ∀ b, F b → F0 b ∨ w0.heap.size ≤ b
  old : ∀ b, F0 b → b < w0.heap.size
  sbn : w0.heap.size ≤ sb
  vbn : w0.heap.size ≤ vb
  evn : ∀ b, ev.ownBlock = some b → w0.heap.size ≤ b
  ann : ∀ b, ansF out Z b → w0.heap.size ≤ b
  f1 : ¬ F sb
  f2 : ¬ F vb
  f4 : ∀ b, ev.ownBlock = some b → ¬ F b
  f5 : ∀ b, ansF out Z b → ¬ F b
  n1 : sb ≠ vb
  e1 : ev.ownBlock ≠ some sb
  e2 : ev.ownBlock ≠ some vb
  k1 : ¬ ansF out Z sb
  k2 : ¬ ansF out Z vb
  ek : ∀ b, ev.ownBlock = some b → ¬ ansF out Z b

theorem ansF_snoc {v : Value} {Z : List (Ans × Value)} {a : Ans} {kv : Value} {b : Nat} (h : ansF v (Z ++ [(a, kv)]) b) : v.ownBlock = some b ∨ (∃ (i : Nat) (q : Ans × Value), Z[i]? = some q ∧ q.2.ownBlock = some b) ∨ kv.ownBlock = some b := by
  rcases h with h | ⟨i, q, hq, h⟩
  · exact .inl h
  · by_cases hi : i < Z.length
    · rw [List.getElem?_append_left hi] at hq
      exact .inr (.inl ⟨i, q, hq, h⟩)
    · rw [List.getElem?_append_right (by omega)] at hq
      have h0 : i - Z.length = 0 := by
        have := (List.getElem?_eq_some_iff.1 hq).1
        simp at this; omega
      rw [h0] at hq
      simp at hq
      subst hq
      exact .inr (.inr h)

/-- The loop of Apply behind an op. -/
theorem LoopR.next {TA : TreeRel} {N : Nat} (hT : TreeOk TA N) {w0 wr w5 w6 : World} {s sb vb : Nat} {F0 F F' : Nat → Prop} {r : Run} {ev out ev' out' kv : Value} {Z : List (Ans × Value)} {S' : St} {E' : List Ev} {a : Ans} {X : Nat → Prop}
    (hl : LoopR TA w0 wr s sb vb F0 r F ev out Z) (hS : StoreAt TA w5 s S' F') (hbox : Has w5 sb [.pointer (some ⟨s, 0, none⟩)]) (hevs : Has w5 vb [ev']) (hevl : SlF w5 73 13 evC ev' E') (hkv : SlF w5 57 6 kvC kv a.kvs)
    (hf : Fr X wr w5) (hX : ∀ b, b < wr.heap.size → X b → F b ∨ b = vb ∨ ev.ownBlock = some b) (hF' : ∀ b, F' b → F b ∨ wr.heap.size ≤ b) (hev' : ∀ b, ev'.ownBlock = some b → ev.ownBlock = some b ∨ wr.heap.size ≤ b)
    (hkv' : ∀ b, kv.ownBlock = some b → wr.heap.size ≤ b) (d1 : ∀ b, ev'.ownBlock = some b → ¬ F' b) (d2 : ∀ b, kv.ownBlock = some b → ¬ F' b) (d3 : ∀ b, ev'.ownBlock = some b → kv.ownBlock ≠ some b)
    (hf6 : Fr (fun b => out.ownBlock = some b) w5 w6) (hs6 : SlF w6 90 4 ansC out' (Z ++ [(a, kv)])) (hn6 : ∀ b, out'.ownBlock = some b → out.ownBlock = some b ∨ w5.heap.size ≤ b) :
    LoopR TA w0 w6 s sb vb F0 ⟨S', r.A ++ [a], E'⟩ F' ev' out' (Z ++ [(a, kv)]) := by
  have lF := hl.store.lt hT
  have lF' := hS.lt hT
  have lA := hl.ans.lt
  have lev' := hevl.lt
  have lkv := hkv.lt
  have lsb := hl.box.lt
  have lvb := hl.evs.lt
  have hsz := hf.size
  have hsz0 := hl.fr.size
  have nout : ∀ b, out.ownBlock = some b → ¬ F' b := fun b hb h => by
    rcases hF' b h with h1 | h1
    · exact hl.f5 b (.inl hb) h1
    · have := lA b (.inl hb); omega
  have kvout : ∀ b, kv.ownBlock = some b → out.ownBlock ≠ some b := fun b hb h => by
    have := lA b (.inl h); have := hkv' b hb; omega
  have evout : ∀ b, ev'.ownBlock = some b → ¬ ansF out Z b := fun b hb h => by
    rcases hev' b hb with h1 | h1
    · exact hl.ek b h1 h
    · have := lA b h; omega
  -- what the answers' blocks are
  have split : ∀ b, ansF out' (Z ++ [(a, kv)]) b → ansF out Z b ∨ w5.heap.size ≤ b ∨ kv.ownBlock = some b := fun b h => by
    rcases ansF_snoc h with h | h | h
    · rcases hn6 b h with h | h
      · exact .inl (.inl h)
      · exact .inr (.inl h)
    · exact .inl (.inr h)
    · exact .inr (.inr h)
  have hfr : Fr F0 w0 w6 := by
    refine (hl.fr.trans (hf.mono (T := fun b => F b ∨ b = vb ∨ ev.ownBlock = some b) hX) fun b hb h => ?_).trans hf6 fun b hb h => ?_
    · rcases h with h | h | h
      · rcases hl.new b h with h | h
        · exact h
        · omega
      · have := hl.vbn; omega
      · have := hl.evn b h; omega
    · have := hl.ann b (.inl h); omega
  exact {
    fr := hfr
    store := hS.fr hT hf6 fun b hb h => nout b h hb
    box := hbox.fr hf6 fun h => hl.k1 (.inl h)
    evs := hevs.fr hf6 fun h => hl.k2 (.inl h)
    evl := hevl.fr hf6 fun b hb h => evout b hb (.inl h)
    ans := (hl.ans.fr (hf.mono hX) fun b hb h => by
      rcases h with h | h | h
      · exact hl.f5 b hb h
      · exact hl.k2 (h ▸ hb)
      · exact hl.ek b h hb).snoc hf6 hs6 hkv kvout hn6
    eqs := by rw [List.map_append, hl.eqs]; rfl
    new := fun b h => by
      rcases hF' b h with h | h
      · exact hl.new b h
      · exact .inr (by omega)
    old := hl.old
    sbn := hl.sbn
    vbn := hl.vbn
    evn := fun b h => by
      rcases hev' b h with h | h
      · exact hl.evn b h
      · omega
    ann := fun b h => by
      rcases split b h with h | h | h
      · exact hl.ann b h
      · omega
      · have := hkv' b h; omega
    f1 := fun h => by
      rcases hF' _ h with h | h
      · exact hl.f1 h
      · omega
    f2 := fun h => by
      rcases hF' _ h with h | h
      · exact hl.f2 h
      · omega
    f4 := d1
    f5 := fun b h hF => by
      rcases split b h with h | h | h
      · rcases hF' b hF with h1 | h1
        · exact hl.f5 b h h1
        · have := lA b h; omega
      · have := lF' b hF; omega
      · exact d2 b h hF
    n1 := hl.n1
    e1 := fun h => by
      rcases hev' _ h with h | h
      · exact hl.e1 h
      · omega
    e2 := fun h => by
      rcases hev' _ h with h | h
      · exact hl.e2 h
      · omega
    k1 := fun h => by
      rcases split _ h with h | h | h
      · exact hl.k1 h
      · omega
      · have := hkv' _ h; omega
    k2 := fun h => by
      rcases split _ h with h | h | h
      · exact hl.k2 h
      · omega
      · have := hkv' _ h; omega
    ek := fun b h h' => by
      rcases split b h' with h' | h' | h'
      · exact evout b h h'
      · have := lev' b h; omega
      · exact d3 b h h' }

end Go.Proofs.Ythljnnjpmdgkoaa
