/- A lease and a table of leases in memory, changed part by part. Plain facts; no program is run. -/
import Derived.Test.YtlomeohcgjgpjaaLeaC
import Derived.Test.YtlomeohcgjgpjaaMapS
namespace Go.Proofs.Ytlomeohcgjgpjaa
open Go Go.RowKit

def strC (k : ByteArray) : List Value := [.string k]
theorem strC_length (k : ByteArray) : (strC k).length = 1 := rfl
def entC (e : Int × Int) : List Value := [.int .i64 e.1, .int .i64 e.2]
theorem entC_length (e : Int × Int) : (entC e).length = 2 := rfl

/-- A lease in the block b, its keys at kv. -/
structure LsR (w : World) (b : Nat) (kv : Value) (l : Ls) : Prop where
  obj : Has w b [.int .i64 l.ticks, .int .i64 l.due, .bool l.told, kv]
  keys : SlF w 9 1 strC kv l.keys
  d : kv.ownBlock ≠ some b
def LsAt (w : World) (b : Nat) (l : Ls) (F : Nat → Prop) : Prop := ∃ kv, LsR w b kv l ∧ ∀ x, F x ↔ x = b ∨ kv.ownBlock = some x
theorem LsAt.lt {w : World} {b : Nat} {l : Ls} {F : Nat → Prop} (a : LsAt w b l F) : ∀ x, F x → x < w.heap.size := by
  obtain ⟨kv, a, hF⟩ := a
  intro x hx
  rcases (hF x).1 hx with rfl | h
  · exact a.obj.lt
  · exact a.keys.lt x h
theorem LsR.fr {w w' : World} {b : Nat} {kv : Value} {l : Ls} {S : Nat → Prop} (a : LsR w b kv l) (hf : Fr S w w') (h1 : ¬ S b) (h2 : ∀ x, kv.ownBlock = some x → ¬ S x) : LsR w' b kv l :=
  ⟨a.obj.fr hf h1, a.keys.fr hf h2, a.d⟩
theorem LsAt.fr {w w' : World} {b : Nat} {l : Ls} {F S : Nat → Prop} (a : LsAt w b l F) (hf : Fr S w w') (hn : ∀ x, F x → ¬ S x) : LsAt w' b l F := by
  obtain ⟨kv, a, hF⟩ := a
  exact ⟨kv, a.fr hf (hn _ ((hF _).2 (.inl rfl))) fun x hx => hn x ((hF x).2 (.inr hx)), hF⟩

/-- A table of leases: the object t, its maps m and o, its queue qv, the leases' objects hp; FL tells whose a block is. -/
structure LeaR (w : World) (t m o : Nat) (qv : Value) (hp : Int → Option Nat) (FL : Int → Nat → Prop) (T : LT) : Prop where
  obj : Has w t [.map (some m), .map (some o), .int .i64 T.now, qv]
  map : MapAt w m fun i => (hp i).map fun h => .pointer (some ⟨h, 0, none⟩)
  of : MapS w o fun k => (ofL T.L k).map (Value.int .i64)
  q : SlF w 82 2 entC qv T.q
  ls : ∀ i l, getL T.L i = some l → ∃ h, hp i = some h ∧ LsAt w h l (FL i)
  gone : ∀ i, getL T.L i = none → hp i = none ∧ ∀ b, ¬ FL i b
  mo : m ≠ o
  dt : qv.ownBlock ≠ some t ∧ ∀ i, ¬ FL i t
  dm : qv.ownBlock ≠ some m ∧ ∀ i, ¬ FL i m
  do' : qv.ownBlock ≠ some o ∧ ∀ i, ¬ FL i o
  dq : ∀ b, qv.ownBlock = some b → ∀ i, ¬ FL i b
  dl : ∀ i j b, FL i b → FL j b → i = j
def leaF (t m o : Nat) (qv : Value) (FL : Int → Nat → Prop) (b : Nat) : Prop := b = t ∨ b = m ∨ b = o ∨ qv.ownBlock = some b ∨ ∃ i, FL i b
def LeaAt (w : World) (t : Nat) (T : LT) (F : Nat → Prop) : Prop := ∃ m o qv hp FL, LeaR w t m o qv hp FL T ∧ ∀ b, F b ↔ leaF t m o qv FL b
theorem MapS.apart {w : World} {b : Nat} {f : ByteArray → Option Value} (h : MapS w b f) {cs : List Value} {c : Nat} (hc : Has w c cs) : b ≠ c := by
  rintro rfl
  obtain ⟨es, clock, hb, _⟩ := h
  obtain ⟨e, hc⟩ := hc
  rw [hb] at hc; cases hc
section
variable {w w' : World} {t m o : Nat} {qv : Value} {hp : Int → Option Nat} {FL : Int → Nat → Prop} {T : LT}
theorem LeaR.fl (a : LeaR w t m o qv hp FL T) {i : Int} {b : Nat} (h : FL i b) : ∃ l p, getL T.L i = some l ∧ hp i = some p ∧ LsAt w p l (FL i) := by
  cases hl : getL T.L i with
  | none => exact absurd h ((a.gone i hl).2 b)
  | some l =>
    obtain ⟨p, h1, h2⟩ := a.ls i l hl
    exact ⟨l, p, rfl, h1, h2⟩
theorem LeaR.lt (a : LeaR w t m o qv hp FL T) : ∀ b, leaF t m o qv FL b → b < w.heap.size := by
  rintro b (rfl | rfl | rfl | e | ⟨i, e⟩)
  · exact a.obj.lt
  · exact a.map.lt
  · exact a.of.lt
  · exact a.q.lt b e
  · obtain ⟨l, p, _, _, h⟩ := a.fl e
    exact h.lt b e
theorem LeaR.fr {X : Nat → Prop} (a : LeaR w t m o qv hp FL T) (hf : Fr X w w') (hn : ∀ b, leaF t m o qv FL b → ¬ X b) : LeaR w' t m o qv hp FL T where
  obj := a.obj.fr hf (hn _ (.inl rfl))
  map := a.map.fr hf (hn _ (.inr (.inl rfl)))
  of := a.of.fr hf (hn _ (.inr (.inr (.inl rfl))))
  q := a.q.fr hf fun b hb => hn b (.inr (.inr (.inr (.inl hb))))
  ls i l hi := by
    obtain ⟨h, h1, h2⟩ := a.ls i l hi
    exact ⟨h, h1, h2.fr hf fun b hb => hn b (.inr (.inr (.inr (.inr ⟨i, hb⟩))))⟩
  gone := a.gone
  mo := a.mo
  dt := a.dt
  dm := a.dm
  do' := a.do'
  dq := a.dq
  dl := a.dl
theorem LeaAt.fr {F X : Nat → Prop} (a : LeaAt w t T F) (hf : Fr X w w') (hn : ∀ b, F b → ¬ X b) : LeaAt w' t T F := by
  obtain ⟨m, o, qv, hp, FL, a, hF⟩ := a
  exact ⟨m, o, qv, hp, FL, a.fr hf (fun b hb => hn b ((hF b).2 hb)), hF⟩
theorem LeaAt.fr0 {F : Nat → Prop} (a : LeaAt w t T F) (hf : Fr No w w') : LeaAt w' t T F := a.fr hf fun _ _ s => s
theorem LeaAt.lt {F : Nat → Prop} (a : LeaAt w t T F) : ∀ b, F b → b < w.heap.size := by
  obtain ⟨m, o, qv, hp, FL, a, hF⟩ := a
  exact fun b hb => a.lt b ((hF b).1 hb)
/-- The table's own cells and its queue changed. -/
theorem LeaR.setQ (a : LeaR w t m o qv hp FL T) {now : Int} {qv' : Value} {q' : List (Int × Int)} (hf : Fr (fun b => b = t ∨ qv.ownBlock = some b) w w') (ho : Has w' t [.map (some m), .map (some o), .int .i64 now, qv']) (hq : SlF w' 82 2 entC qv' q')
    (hn : ∀ b, qv'.ownBlock = some b → qv.ownBlock = some b ∨ w.heap.size ≤ b) : LeaR w' t m o qv' hp FL ⟨T.L, now, q'⟩ where
  obj := ho
  map := a.map.fr hf (by rintro (e | e)
                         · exact a.map.apart a.obj e
                         · exact a.dm.1 e)
  of := a.of.fr hf (by rintro (e | e)
                       · exact a.of.apart a.obj e
                       · exact a.do'.1 e)
  q := hq
  ls i l hi := by
    obtain ⟨h, h1, h2⟩ := a.ls i l hi
    exact ⟨h, h1, h2.fr hf fun b hb => by rintro (e | e)
                                          · exact a.dt.2 i (e ▸ hb)
                                          · exact a.dq b e i hb⟩
  gone := a.gone
  mo := a.mo
  dt := ⟨fun e => by rcases hn _ e with h | h
                     · exact a.dt.1 h
                     · have := a.obj.lt; omega, a.dt.2⟩
  dm := ⟨fun e => by rcases hn _ e with h | h
                     · exact a.dm.1 h
                     · have := a.map.lt; omega, a.dm.2⟩
  do' := ⟨fun e => by rcases hn _ e with h | h
                      · exact a.do'.1 h
                      · have := a.of.lt; omega, a.do'.2⟩
  dq b hb i hi := by
    rcases hn b hb with h | h
    · exact a.dq b h i hi
    · have := a.lt b (.inr (.inr (.inr (.inr ⟨i, hi⟩)))); omega
  dl := a.dl
theorem ofL_set {L : List (Int × Ls)} {id : Int} {f : Ls → Ls} (hf : ∀ l, (f l).keys = l.keys) (k : ByteArray) : ofL (setL L id f) k = ofL L k := by
  unfold ofL setL
  induction L with
  | nil => rfl
  | cons x L ih =>
    rw [List.map_cons, List.find?_cons, List.find?_cons]
    have e : (if x.1 = id then (x.1, f x.2) else x).2.keys = x.2.keys := by split
                                                                            · exact hf _
                                                                            · rfl
    have e1 : (if x.1 = id then (x.1, f x.2) else x).1 = x.1 := by split <;> rfl
    rw [e]
    cases x.2.keys.any fun j => keq j k with
    | true => simpa using e1
    | false => exact ih
/-- A lease changed, its blocks F'. -/
theorem LeaR.setLs (a : LeaR w t m o qv hp FL T) {id : Int} {p : Nat} {l : Ls} {f : Ls → Ls} {F' : Nat → Prop} (hl : getL T.L id = some l) (hid : hp id = some p) (hf : Fr (fun b => b = o ∨ FL id b) w w') (hh : LsAt w' p (f l) F') (hn : ∀ b, F' b → FL id b ∨ w.heap.size ≤ b)
    (hof : MapS w' o fun k => (ofL (setL T.L id f) k).map (Value.int .i64)) : LeaR w' t m o qv hp (fun i => if i = id then F' else FL i) ⟨setL T.L id f, T.now, T.q⟩ where
  obj := a.obj.fr hf fun e => e.elim (fun e => a.of.apart a.obj e.symm) (a.dt.2 id)
  map := a.map.fr hf fun e => e.elim a.mo (a.dm.2 id)
  of := hof
  q := a.q.fr hf fun b hb e => e.elim (fun e => a.do'.1 (e ▸ hb)) (a.dq b hb id)
  ls i l' hi := by
    dsimp only at hi
    rw [getL_set] at hi
    by_cases e : i = id
    · subst e
      rw [hl, Option.map_some, if_pos rfl] at hi
      cases hi
      exact ⟨p, hid, by rw [if_pos rfl]; exact hh⟩
    · obtain ⟨l0, h0, h1⟩ := Option.map_eq_some_iff.1 hi
      rw [if_neg e] at h1
      subst h1
      obtain ⟨h, h1, h2⟩ := a.ls i l0 h0
      exact ⟨h, h1, by rw [if_neg e]; exact h2.fr hf fun b hb hb' => hb'.elim (fun e' => a.do'.2 i (e' ▸ hb)) fun hb' => e (a.dl i id b hb hb')⟩
  gone i hi := by
    dsimp only at hi
    rw [getL_set, Option.map_eq_none_iff] at hi
    have e : i ≠ id := by rintro rfl; rw [hl] at hi; cases hi
    exact ⟨(a.gone i hi).1, by rw [if_neg e]; exact (a.gone i hi).2⟩
  mo := a.mo
  dt := ⟨a.dt.1, fun i e => by
    by_cases hi' : i = id
    · rw [if_pos hi'] at e
      rcases hn _ e with h | h
      · exact a.dt.2 _ h
      · have := a.obj.lt; omega
    · rw [if_neg hi'] at e; exact a.dt.2 i e⟩
  dm := ⟨a.dm.1, fun i e => by
    by_cases hi' : i = id
    · rw [if_pos hi'] at e
      rcases hn _ e with h | h
      · exact a.dm.2 _ h
      · have := a.map.lt; omega
    · rw [if_neg hi'] at e; exact a.dm.2 i e⟩
  do' := ⟨a.do'.1, fun i e => by
    by_cases hi' : i = id
    · rw [if_pos hi'] at e
      rcases hn _ e with h | h
      · exact a.do'.2 _ h
      · have := a.of.lt; omega
    · rw [if_neg hi'] at e; exact a.do'.2 i e⟩
  dq b hb i e := by
    by_cases hi' : i = id
    · rw [if_pos hi'] at e
      rcases hn _ e with h | h
      · exact a.dq b hb _ h
      · have := a.q.lt b hb; omega
    · rw [if_neg hi'] at e; exact a.dq b hb i e
  dl i j b hi hj := by
    have key : ∀ k, FL k b → w.heap.size ≤ b → False := fun k hk hb => by
      have := a.lt b (.inr (.inr (.inr (.inr ⟨k, hk⟩)))); omega
    by_cases ei : i = id
    · by_cases ej : j = id
      · rw [ei, ej]
      · try dsimp only at hi hj
        rw [if_pos ei] at hi; rw [if_neg ej] at hj
        rcases hn _ hi with h | h
        · rw [ei]; exact (a.dl j id b hj h).symm
        · exact (key j hj h).elim
    · by_cases ej : j = id
      · try dsimp only at hi hj
        rw [if_neg ei] at hi; rw [if_pos ej] at hj
        rcases hn _ hj with h | h
        · rw [ej]; exact a.dl i id b hi h
        · exact (key i hi h).elim
      · try dsimp only at hi hj
        rw [if_neg ei] at hi; rw [if_neg ej] at hj
        exact a.dl i j b hi hj
/-- A lease laid in, without keys. -/
theorem LeaR.addLs (a : LeaR w t m o qv hp FL T) {id : Int} {p : Nat} {l : Ls} (hid : getL T.L id = none) (hk : l.keys = []) (hf : Fr (fun b => b = m) w w') (hp' : w.heap.size ≤ p) (ho : Has w' p [.int .i64 l.ticks, .int .i64 l.due, .bool l.told, .slice none 0 0])
    (hm : MapAt w' m fun i => if i = id then some (.pointer (some ⟨p, 0, none⟩)) else (hp i).map fun h => .pointer (some ⟨h, 0, none⟩)) :
    LeaR w' t m o qv (fun i => if i = id then some p else hp i) (fun i => if i = id then (fun b => b = p) else FL i) ⟨insBy Prod.fst (id, l) T.L, T.now, T.q⟩ := by
  have hgi := getL_ins (l := l) (getL_none hid)
  have hlt := a.lt
  have hof : ∀ k, ofL (insBy Prod.fst (id, l) T.L) k = ofL T.L k := by
    intro k
    unfold ofL
    induction T.L with
    | nil => simp [insBy, hk]
    | cons x L ih =>
      unfold insBy
      split
      · rw [List.find?_cons]; simp [hk]
      · rw [List.find?_cons, List.find?_cons]
        cases x.2.keys.any fun j => keq j k with
        | true => rfl
        | false => exact ih
  refine ⟨a.obj.fr hf fun e => a.map.apart a.obj e.symm, ?_, ?_, a.q.fr hf fun b hb e => a.dm.1 (e ▸ hb), ?_, ?_, a.mo, ?_, ?_, ?_, ?_, ?_⟩
  · refine cast (congrArg (MapAt w' m) (funext fun i => ?_)) hm
    by_cases e : i = id
    · rw [if_pos e, if_pos e]; rfl
    · rw [if_neg e, if_neg e]
  · refine cast (congrArg (MapS w' o) (funext fun k => ?_)) (a.of.fr hf fun e => a.mo e.symm)
    dsimp only; rw [hof]
  · intro i l' hi
    dsimp only at hi
    rw [hgi] at hi
    by_cases e : i = id
    · rw [if_pos e] at hi
      cases hi
      refine ⟨p, by rw [if_pos e], .slice none 0 0, ⟨ho, by rw [hk]; exact SlF.nil _ _ _ _, by simp [Value.ownBlock]⟩, fun x => ?_⟩
      rw [if_pos e]; simp [Value.ownBlock]
    · rw [if_neg e] at hi
      obtain ⟨h, h1, h2⟩ := a.ls i l' hi
      exact ⟨h, by rw [if_neg e]; exact h1, by rw [if_neg e]; exact h2.fr hf fun b hb e' => a.dm.2 i (e' ▸ hb)⟩
  · intro i hi
    dsimp only at hi
    rw [hgi] at hi
    by_cases e : i = id
    · rw [if_pos e] at hi; cases hi
    · rw [if_neg e] at hi
      exact ⟨by rw [if_neg e]; exact (a.gone i hi).1, by rw [if_neg e]; exact (a.gone i hi).2⟩
  · refine ⟨a.dt.1, fun i e => ?_⟩
    split at e
    · have := a.obj.lt; omega
    · exact a.dt.2 i e
  · refine ⟨a.dm.1, fun i e => ?_⟩
    split at e
    · have := a.map.lt; omega
    · exact a.dm.2 i e
  · refine ⟨a.do'.1, fun i e => ?_⟩
    split at e
    · have := a.of.lt; omega
    · exact a.do'.2 i e
  · intro b hb i e
    split at e
    · have := a.q.lt b hb; omega
    · exact a.dq b hb i e
  · intro i j b hi hj
    try dsimp only at hi hj
    have key : ∀ k, FL k b → b = p → False := fun k hk hb => by
      have := hlt b (.inr (.inr (.inr (.inr ⟨k, hk⟩)))); omega
    by_cases ei : i = id
    · by_cases ej : j = id
      · rw [ei, ej]
      · rw [if_pos ei] at hi; rw [if_neg ej] at hj; exact (key j hj hi).elim
    · by_cases ej : j = id
      · rw [if_neg ei] at hi; rw [if_pos ej] at hj; exact (key i hi hj).elim
      · rw [if_neg ei] at hi; rw [if_neg ej] at hj; exact a.dl i j b hi hj
/-- A lease taken out, with its keys. -/
theorem LeaR.delLs (a : LeaR w t m o qv hp FL T) {id : Int} (hf : Fr (fun b => b = m ∨ b = o) w w') (hm : MapAt w' m fun i => if i = id then none else (hp i).map fun h => .pointer (some ⟨h, 0, none⟩))
    (hof : MapS w' o fun k => (ofL (delL T.L id) k).map (Value.int .i64)) :
    LeaR w' t m o qv (fun i => if i = id then none else hp i) (fun i => if i = id then No else FL i) ⟨delL T.L id, T.now, T.q⟩ := by
  have hgi := getL_del (L := T.L) id
  refine ⟨a.obj.fr hf (fun e => e.elim (fun e => a.map.apart a.obj e.symm) fun e => a.of.apart a.obj e.symm), ?_, hof, a.q.fr hf (fun b hb e => e.elim (fun e => a.dm.1 (e ▸ hb)) fun e => a.do'.1 (e ▸ hb)), ?_, ?_, a.mo, ?_, ?_, ?_, ?_, ?_⟩
  · refine cast (congrArg (MapAt w' m) (funext fun i => ?_)) hm
    by_cases e : i = id
    · rw [if_pos e, if_pos e]; rfl
    · rw [if_neg e, if_neg e]
  · intro i l' hi
    dsimp only at hi
    rw [hgi] at hi
    by_cases e : i = id
    · rw [if_pos e] at hi; cases hi
    · rw [if_neg e] at hi
      obtain ⟨h, h1, h2⟩ := a.ls i l' hi
      exact ⟨h, by rw [if_neg e]; exact h1, by rw [if_neg e]; exact h2.fr hf fun b hb e => e.elim (fun e => a.dm.2 i (e ▸ hb)) fun e => a.do'.2 i (e ▸ hb)⟩
  · intro i hi
    dsimp only at hi
    rw [hgi] at hi
    by_cases e : i = id
    · exact ⟨by rw [if_pos e], by rw [if_pos e]; exact fun _ h => h⟩
    · rw [if_neg e] at hi
      exact ⟨by rw [if_neg e]; exact (a.gone i hi).1, by rw [if_neg e]; exact (a.gone i hi).2⟩
  · refine ⟨a.dt.1, fun i e => ?_⟩
    split at e
    · exact e
    · exact a.dt.2 i e
  · refine ⟨a.dm.1, fun i e => ?_⟩
    split at e
    · exact e
    · exact a.dm.2 i e
  · refine ⟨a.do'.1, fun i e => ?_⟩
    split at e
    · exact e
    · exact a.do'.2 i e
  · intro b hb i e
    split at e
    · exact e
    · exact a.dq b hb i e
  · intro i j b hi hj
    try dsimp only at hi hj
    split at hi
    · exact hi.elim
    · split at hj
      · exact hj.elim
      · exact a.dl i j b hi hj
end
end Go.Proofs.Ytlomeohcgjgpjaa
