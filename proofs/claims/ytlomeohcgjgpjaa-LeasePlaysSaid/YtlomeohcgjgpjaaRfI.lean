/- The law's asked: a call of the document's table in memory does what the document's table does. The condition: at most 1000 calls. -/
import Derived.Test.YtlomeohcgjgpjaaRfH
import Derived.Test.YtlomeohcgjgpjaaRfD
namespace Go.Proofs.Ytlomeohcgjgpjaa
open Go Go.Proofs Go.RowKit
set_option maxRecDepth 100000

theorem RfTo.from_ {w W w' : World} {t : Nat} {R : List LV} {G : Nat → Prop} (hf : Fr No w W) (h : RfTo W w' t R G) : RfTo w w' t R G := by
  obtain ⟨v, P, h1, h2, h3⟩ := h
  have := hf.size
  have := h3.size
  refine ⟨v, P, h1.more (fun b hb => hb.imp (fun h => h) fun hb => ⟨by omega, hb.2⟩) (fun b hb => ?_), h2, (hf.mono fun _ _ s => s.elim).trans h3 fun _ _ h => h⟩
  rcases hb with hb | hb
  · exact h1.lt b (.inl hb)
  · exact hb.2
/-- Behind the law's asked. -/
def AskTo (w w' : World) (t : Nat) (R : List LV) (G : Nat → Prop) (o : LOp) (e : Ending) : Prop := ∃ (a1 : Option Addr) (c1 : Nat) (a2 : Option Addr) (c2 : Nat),
  e = .returned (.tuple #[.int .i64 (stepR R o).1.e, .int .i64 (stepR R o).1.n, .slice a1 (stepR R o).1.keys.length c1, .slice a2 (stepR R o).1.told.length c2]) ∧
    Hid (SlF w' 9 1 strC (.slice a1 (stepR R o).1.keys.length c1) (stepR R o).1.keys ∧ SlF w' 3 1 int1 (.slice a2 (stepR R o).1.told.length c2) (stepR R o).1.told ∧ RfTo w w' t (stepR R o).2 G)
theorem ask_of {w W w' : World} {t : Nat} {R : List LV} {G : Nat → Prop} {o : LOp} {er n : Int} (hW : Fr No w W) (h : RfTo W w' t (stepR R o).2 G) (he : (stepR R o).1 = ⟨er, n, [], []⟩) : AskTo w w' t R G o (.returned (.tuple #[.int .i64 er, .int .i64 n, .slice none 0 0, .slice none 0 0])) := by
  unfold AskTo
  rw [he]
  exact ⟨none, 0, none, 0, rfl, Lib.hid ⟨SlF.nil _ _ _ _, SlF.nil _ _ _ _, h.from_ hW⟩⟩
section
variable {w : World} {t : Nat} {v : Value} {P : List (LV × Value)} {G : Nat → Prop}
theorem rrev_at (h : Rf w t v P G) (hlen : P.length ≤ 100000) (hr : (P.map (·.1)).Pairwise fun a b => a.id < b.id) (id : Int) :
    Calls Try.prog 40 #[.pointer (some ⟨t, 0, none⟩), .int .i64 id] w fun e w' => ∃ (a : Option Addr) (k c : Nat) (er : Int), e = .returned (.tuple #[.slice a k c, .int .i64 er]) ∧ Hid (rrevTo w w' t (P.map (·.1)) G id (.returned (.tuple #[.slice a k c, .int .i64 er]))) := by
  refine (rrevoke_calls h hlen hr id).mono fun e w' hd => ?_
  have hd' := hd
  unfold rrevTo at hd
  cases hg : getR (P.map (·.1)) id with
  | none => rw [hg] at hd; obtain ⟨rfl, _⟩ := hd; exact ⟨none, 0, 0, 35, rfl, Lib.hid hd'⟩
  | some x => rw [hg] at hd; obtain ⟨a, c, rfl, _⟩ := hd; exact ⟨a, _, c, 0, rfl, Lib.hid hd'⟩
theorem rren_at (h : Rf w t v P G) (hlen : P.length ≤ 100000) (hr : (P.map (·.1)).Pairwise fun a b => a.id < b.id) (id : Int) :
    Calls Try.prog 41 #[.pointer (some ⟨t, 0, none⟩), .int .i64 id] w fun e w' => ∃ n er : Int, e = .returned (.tuple #[.int .i64 n, .int .i64 er]) ∧ Hid (rrenTo w w' t (P.map (·.1)) G id (.returned (.tuple #[.int .i64 n, .int .i64 er]))) := by
  refine (rrenew_calls h hlen hr id).mono fun e w' hd => ?_
  have hd' := hd
  unfold rrenTo at hd
  cases hg : getR (P.map (·.1)) id with
  | none => rw [hg] at hd; obtain ⟨rfl, _⟩ := hd; exact ⟨0, 35, rfl, Lib.hid hd'⟩
  | some x => rw [hg] at hd; obtain ⟨rfl, _⟩ := hd; exact ⟨_, 0, rfl, Lib.hid hd'⟩
theorem ratt_at (h : Rf w t v P G) (hlen : P.length ≤ 100000) (hkl : ∀ p ∈ P, p.1.keys.length ≤ 100000) (hr : (P.map (·.1)).Pairwise fun a b => a.id < b.id) (id : Int) (key : ByteArray) :
    Calls Try.prog 42 #[.pointer (some ⟨t, 0, none⟩), .int .i64 id, .string key] w fun e w' => ∃ er : Int, e = .returned (.int .i64 er) ∧ Hid (rattTo w w' t (P.map (·.1)) G id key (.returned (.int .i64 er))) := by
  refine (rattach_calls h hlen hkl hr id key).mono fun e w' hd => ?_
  have hd' := hd
  unfold rattTo at hd
  cases hg : getR (P.map (·.1)) id with
  | none => rw [hg] at hd; obtain ⟨rfl, _⟩ := hd; exact ⟨35, rfl, Lib.hid hd'⟩
  | some x => rw [hg] at hd; obtain ⟨rfl, _⟩ := hd; exact ⟨0, rfl, Lib.hid hd'⟩
theorem rtick_at (h : Rf w t v P G) (hlen : P.length ≤ 100000) (hb : ∀ p ∈ P, 0 ≤ p.1.left ∧ p.1.left ≤ maxT) (n : Int) :
    Calls Try.prog 44 #[.pointer (some ⟨t, 0, none⟩), .int .i64 n] w fun e w' => ∃ (a : Option Addr) (k c : Nat), e = .returned (.slice a k c) ∧ Hid (SlF w' 3 1 int1 (.slice a k c) (toldR (P.map (·.1)) n) ∧ k = (toldR (P.map (·.1)) n).length ∧ RfTo w w' t (tickR (P.map (·.1)) n) G) := by
  refine (rtick_calls h hlen hb n).mono fun e w' hd => ?_
  obtain ⟨u, rfl, hs, ht⟩ := hd
  obtain ⟨a, c, rfl, _⟩ := hs.shape
  exact ⟨a, _, c, rfl, Lib.hid ⟨hs, rfl, ht⟩⟩
end
set_option maxHeartbeats 4000000 in
theorem ask_grant {n : Nat} (hn : n ≤ 1000) {w : World} {t : Nat} {v : Value} {P : List (LV × Value)} {G : Nat → Prop} (h : Rf w t v P G) (hok : ROk n (P.map (·.1))) (o : LOp) (hk : o.kind % 8 = 0) :
    Calls Try.prog 23 #[.pointer (some ⟨t, 0, none⟩), opV o] w fun e w' => AskTo w w' t (P.map (·.1)) G o e := by
  have hlen : P.length ≤ 100000 := by have := hok.len; rw [List.length_map] at this; omega
  have hkl : ∀ p ∈ P, p.1.keys.length ≤ 100000 := fun p hp => by have := (hok.klen p.1 (List.mem_map.2 ⟨p, hp, rfl⟩)).1; omega
  have hbl : ∀ p ∈ P, 0 ≤ p.1.left ∧ p.1.left ≤ maxT := fun p hp => by have := hok.num p.1 (List.mem_map.2 ⟨p, hp, rfl⟩); unfold maxT at *; omega
  have hr := hok.rise
  have hop := fun W (hW : Fr No w W) => (rgrant_calls (h.fr0 hW) hlen o.id o.n)
  have hst : stepR (P.map (·.1)) o = (⟨grantE (P.map (·.1)) o.id o.n, 0, [], []⟩, if grantE (P.map (·.1)) o.id o.n = 0 then grantR (P.map (·.1)) o.id o.n else P.map (·.1)) := by unfold stepR; rw [if_pos hk]
  have hkc := fun W => kind_calls W o 0 hk
  generalize P.map (·.1) = R at *
  have HOP := Lib.hid hop
  have HST := Lib.hid hst
  have HKC := Lib.hid hkc
  clear hop hst hkc h hk hlen hkl hbl hr hok hn
  unfold opV at HKC ⊢
  go_enter Try.func23, Try.ntmps23
  have hfb : Fr No w (w.alloc (.cells #[.int .i64 o.kind, .int .i64 o.id, .int .i64 o.n, .string o.key] 24)) := (Fr.refl No w).alloc _
  have hbb := alloc_at w (.cells #[.int .i64 o.kind, .int .i64 o.id, .int .i64 o.n, .string o.key] 24) w.heap.size rfl
  have HFB := Lib.hid hfb
  have HBB := Lib.hid hbb
  clear hfb hbb
  go_wp2_with (first
    | (go_at_call 28; (with_reducible refine (HKC.out _).mono ?_); rintro e w1 ⟨rfl, hf1⟩
       have hb1 := hf1.heap HBB.out fun h => h
       obtain ⟨x0, x1, x2, x3⟩ := cells4 hb1
       have lb1 := heap_lt hb1
       have HF1 := Lib.hid (HFB.out.trans0 hf1)
       clear hf1 hb1)
    | (go_at_call 39; (with_reducible refine (HOP.out _ HF1.out).mono ?_); rintro e w2 ⟨rfl, h2⟩; have H2 := Lib.hid (And.intro True.intro h2); clear h2))
  refine bodyPost_ret (results_tmp4 rfl _ _ _) rfl ?_
  exact ask_of HF1.out (by rw [HST.out]; exact H2.out.2) (by rw [HST.out])
set_option maxHeartbeats 4000000 in
theorem ask_revoke {n : Nat} (hn : n ≤ 1000) {w : World} {t : Nat} {v : Value} {P : List (LV × Value)} {G : Nat → Prop} (h : Rf w t v P G) (hok : ROk n (P.map (·.1))) (o : LOp) (hk : o.kind % 8 = 1) :
    Calls Try.prog 23 #[.pointer (some ⟨t, 0, none⟩), opV o] w fun e w' => AskTo w w' t (P.map (·.1)) G o e := by
  have hlen : P.length ≤ 100000 := by have := hok.len; rw [List.length_map] at this; omega
  have hkl : ∀ p ∈ P, p.1.keys.length ≤ 100000 := fun p hp => by have := (hok.klen p.1 (List.mem_map.2 ⟨p, hp, rfl⟩)).1; omega
  have hbl : ∀ p ∈ P, 0 ≤ p.1.left ∧ p.1.left ≤ maxT := fun p hp => by have := hok.num p.1 (List.mem_map.2 ⟨p, hp, rfl⟩); unfold maxT at *; omega
  have hr := hok.rise
  have hop := fun W (hW : Fr No w W) => (rrev_at (h.fr0 hW) hlen hr o.id)
  have hst : stepR (P.map (·.1)) o = (match getR (P.map (·.1)) o.id with
    | none => (⟨35, 0, [], []⟩, P.map (·.1))
    | some x => (⟨0, 0, x.keys, []⟩, revokeR (P.map (·.1)) o.id)) := by unfold stepR; rw [if_neg (by omega), if_pos (by omega)]; cases getR (P.map (·.1)) o.id <;> rfl
  have hkc := fun W => kind_calls W o 1 hk
  generalize P.map (·.1) = R at *
  have HOP := Lib.hid hop
  have HST := Lib.hid hst
  have HKC := Lib.hid hkc
  clear hop hst hkc h hk hlen hkl hbl hr hok hn
  unfold opV at HKC ⊢
  go_enter Try.func23, Try.ntmps23
  have hfb : Fr No w (w.alloc (.cells #[.int .i64 o.kind, .int .i64 o.id, .int .i64 o.n, .string o.key] 24)) := (Fr.refl No w).alloc _
  have hbb := alloc_at w (.cells #[.int .i64 o.kind, .int .i64 o.id, .int .i64 o.n, .string o.key] 24) w.heap.size rfl
  have HFB := Lib.hid hfb
  have HBB := Lib.hid hbb
  clear hfb hbb
  go_wp2_with (first
    | (go_at_call 28; (with_reducible refine (HKC.out _).mono ?_); rintro e w1 ⟨rfl, hf1⟩
       have hb1 := hf1.heap HBB.out fun h => h
       obtain ⟨x0, x1, x2, x3⟩ := cells4 hb1
       have lb1 := heap_lt hb1
       have HF1 := Lib.hid (HFB.out.trans0 hf1)
       clear hf1 hb1)
    | (go_at_call 40; (with_reducible refine (HOP.out _ HF1.out).mono ?_); rintro e w2 ⟨ra, rk, rc, re, rfl, H2⟩))
  refine bodyPost_ret (results_tmp4 rfl _ _ _) rfl ?_
  have h2 := H2.out
  unfold rrevTo at h2
  have hst := HST.out
  cases hg : getR R o.id with
  | none =>
    rw [hg] at h2 hst
    dsimp only at h2 hst
    obtain ⟨e1, h3⟩ := h2
    cases e1
    exact ask_of HF1.out (by rw [hst]; exact h3) (by rw [hst])
  | some x =>
    rw [hg] at h2 hst
    dsimp only at h2 hst
    obtain ⟨a, c, e1, h3, h4⟩ := h2
    cases e1
    unfold AskTo
    rw [hst]
    exact ⟨_, _, none, 0, rfl, Lib.hid ⟨h3, SlF.nil _ _ _ _, h4.from_ HF1.out⟩⟩
set_option maxHeartbeats 4000000 in
theorem ask_renew {n : Nat} (hn : n ≤ 1000) {w : World} {t : Nat} {v : Value} {P : List (LV × Value)} {G : Nat → Prop} (h : Rf w t v P G) (hok : ROk n (P.map (·.1))) (o : LOp) (hk : o.kind % 8 = 2) :
    Calls Try.prog 23 #[.pointer (some ⟨t, 0, none⟩), opV o] w fun e w' => AskTo w w' t (P.map (·.1)) G o e := by
  have hlen : P.length ≤ 100000 := by have := hok.len; rw [List.length_map] at this; omega
  have hkl : ∀ p ∈ P, p.1.keys.length ≤ 100000 := fun p hp => by have := (hok.klen p.1 (List.mem_map.2 ⟨p, hp, rfl⟩)).1; omega
  have hbl : ∀ p ∈ P, 0 ≤ p.1.left ∧ p.1.left ≤ maxT := fun p hp => by have := hok.num p.1 (List.mem_map.2 ⟨p, hp, rfl⟩); unfold maxT at *; omega
  have hr := hok.rise
  have hop := fun W (hW : Fr No w W) => (rren_at (h.fr0 hW) hlen hr o.id)
  have hst : stepR (P.map (·.1)) o = (match getR (P.map (·.1)) o.id with
    | none => (⟨35, 0, [], []⟩, P.map (·.1))
    | some x => (⟨0, x.ticks, [], []⟩, renewR (P.map (·.1)) o.id)) := by unfold stepR; rw [if_neg (by omega), if_neg (by omega), if_pos (by omega)]; cases getR (P.map (·.1)) o.id <;> rfl
  have hkc := fun W => kind_calls W o 2 hk
  generalize P.map (·.1) = R at *
  have HOP := Lib.hid hop
  have HST := Lib.hid hst
  have HKC := Lib.hid hkc
  clear hop hst hkc h hk hlen hkl hbl hr hok hn
  unfold opV at HKC ⊢
  go_enter Try.func23, Try.ntmps23
  have hfb : Fr No w (w.alloc (.cells #[.int .i64 o.kind, .int .i64 o.id, .int .i64 o.n, .string o.key] 24)) := (Fr.refl No w).alloc _
  have hbb := alloc_at w (.cells #[.int .i64 o.kind, .int .i64 o.id, .int .i64 o.n, .string o.key] 24) w.heap.size rfl
  have HFB := Lib.hid hfb
  have HBB := Lib.hid hbb
  clear hfb hbb
  go_wp2_with (first
    | (go_at_call 28; (with_reducible refine (HKC.out _).mono ?_); rintro e w1 ⟨rfl, hf1⟩
       have hb1 := hf1.heap HBB.out fun h => h
       obtain ⟨x0, x1, x2, x3⟩ := cells4 hb1
       have lb1 := heap_lt hb1
       have HF1 := Lib.hid (HFB.out.trans0 hf1)
       clear hf1 hb1)
    | (go_at_call 41; (with_reducible refine (HOP.out _ HF1.out).mono ?_); rintro e w2 ⟨rn, re, rfl, H2⟩))
  refine bodyPost_ret (results_tmp4 rfl _ _ _) rfl ?_
  have h2 := H2.out
  unfold rrenTo at h2
  have hst := HST.out
  cases hg : getR R o.id with
  | none =>
    rw [hg] at h2 hst
    dsimp only at h2 hst
    obtain ⟨e1, h3⟩ := h2
    cases e1
    exact ask_of HF1.out (by rw [hst]; exact h3) (by rw [hst])
  | some x =>
    rw [hg] at h2 hst
    dsimp only at h2 hst
    obtain ⟨e1, h3⟩ := h2
    cases e1
    exact ask_of HF1.out (by rw [hst]; exact h3) (by rw [hst])
set_option maxHeartbeats 4000000 in
theorem ask_attach3 {n : Nat} (hn : n ≤ 1000) {w : World} {t : Nat} {v : Value} {P : List (LV × Value)} {G : Nat → Prop} (h : Rf w t v P G) (hok : ROk n (P.map (·.1))) (o : LOp) (hk : o.kind % 8 = 3) :
    Calls Try.prog 23 #[.pointer (some ⟨t, 0, none⟩), opV o] w fun e w' => AskTo w w' t (P.map (·.1)) G o e := by
  have hlen : P.length ≤ 100000 := by have := hok.len; rw [List.length_map] at this; omega
  have hkl : ∀ p ∈ P, p.1.keys.length ≤ 100000 := fun p hp => by have := (hok.klen p.1 (List.mem_map.2 ⟨p, hp, rfl⟩)).1; omega
  have hbl : ∀ p ∈ P, 0 ≤ p.1.left ∧ p.1.left ≤ maxT := fun p hp => by have := hok.num p.1 (List.mem_map.2 ⟨p, hp, rfl⟩); unfold maxT at *; omega
  have hr := hok.rise
  have hop := fun W (hW : Fr No w W) => (ratt_at (h.fr0 hW) hlen hkl hr o.id o.key)
  have hst : stepR (P.map (·.1)) o = (match getR (P.map (·.1)) o.id with
    | none => (⟨35, 0, [], []⟩, P.map (·.1))
    | some _ => (⟨0, 0, [], []⟩, attachR (P.map (·.1)) o.id o.key)) := by unfold stepR; rw [if_neg (by omega), if_neg (by omega), if_neg (by omega), if_pos (by omega)]; cases getR (P.map (·.1)) o.id <;> rfl
  have hkc := fun W => kind_calls W o 3 hk
  generalize P.map (·.1) = R at *
  have HOP := Lib.hid hop
  have HST := Lib.hid hst
  have HKC := Lib.hid hkc
  clear hop hst hkc h hk hlen hkl hbl hr hok hn
  unfold opV at HKC ⊢
  go_enter Try.func23, Try.ntmps23
  have hfb : Fr No w (w.alloc (.cells #[.int .i64 o.kind, .int .i64 o.id, .int .i64 o.n, .string o.key] 24)) := (Fr.refl No w).alloc _
  have hbb := alloc_at w (.cells #[.int .i64 o.kind, .int .i64 o.id, .int .i64 o.n, .string o.key] 24) w.heap.size rfl
  have HFB := Lib.hid hfb
  have HBB := Lib.hid hbb
  clear hfb hbb
  go_wp2_with (first
    | (go_at_call 28; (with_reducible refine (HKC.out _).mono ?_); rintro e w1 ⟨rfl, hf1⟩
       have hb1 := hf1.heap HBB.out fun h => h
       obtain ⟨x0, x1, x2, x3⟩ := cells4 hb1
       have lb1 := heap_lt hb1
       have HF1 := Lib.hid (HFB.out.trans0 hf1)
       clear hf1 hb1)
    | (go_at_call 42; (with_reducible refine (HOP.out _ HF1.out).mono ?_); rintro e w2 ⟨re, rfl, H2⟩))
  refine bodyPost_ret (results_tmp4 rfl _ _ _) rfl ?_
  have h2 := H2.out
  unfold rattTo at h2
  have hst := HST.out
  cases hg : getR R o.id with
  | none =>
    rw [hg] at h2 hst
    dsimp only at h2 hst
    obtain ⟨e1, h3⟩ := h2
    cases e1
    exact ask_of HF1.out (by rw [hst]; exact h3) (by rw [hst])
  | some x =>
    rw [hg] at h2 hst
    dsimp only at h2 hst
    obtain ⟨e1, h3⟩ := h2
    cases e1
    exact ask_of HF1.out (by rw [hst]; exact h3) (by rw [hst])
set_option maxHeartbeats 4000000 in
theorem ask_attach4 {n : Nat} (hn : n ≤ 1000) {w : World} {t : Nat} {v : Value} {P : List (LV × Value)} {G : Nat → Prop} (h : Rf w t v P G) (hok : ROk n (P.map (·.1))) (o : LOp) (hk : o.kind % 8 = 4) :
    Calls Try.prog 23 #[.pointer (some ⟨t, 0, none⟩), opV o] w fun e w' => AskTo w w' t (P.map (·.1)) G o e := by
  have hlen : P.length ≤ 100000 := by have := hok.len; rw [List.length_map] at this; omega
  have hkl : ∀ p ∈ P, p.1.keys.length ≤ 100000 := fun p hp => by have := (hok.klen p.1 (List.mem_map.2 ⟨p, hp, rfl⟩)).1; omega
  have hbl : ∀ p ∈ P, 0 ≤ p.1.left ∧ p.1.left ≤ maxT := fun p hp => by have := hok.num p.1 (List.mem_map.2 ⟨p, hp, rfl⟩); unfold maxT at *; omega
  have hr := hok.rise
  have hop := fun W (hW : Fr No w W) => (ratt_at (h.fr0 hW) hlen hkl hr o.id o.key)
  have hst : stepR (P.map (·.1)) o = (match getR (P.map (·.1)) o.id with
    | none => (⟨35, 0, [], []⟩, P.map (·.1))
    | some _ => (⟨0, 0, [], []⟩, attachR (P.map (·.1)) o.id o.key)) := by unfold stepR; rw [if_neg (by omega), if_neg (by omega), if_neg (by omega), if_pos (by omega)]; cases getR (P.map (·.1)) o.id <;> rfl
  have hkc := fun W => kind_calls W o 4 hk
  generalize P.map (·.1) = R at *
  have HOP := Lib.hid hop
  have HST := Lib.hid hst
  have HKC := Lib.hid hkc
  clear hop hst hkc h hk hlen hkl hbl hr hok hn
  unfold opV at HKC ⊢
  go_enter Try.func23, Try.ntmps23
  have hfb : Fr No w (w.alloc (.cells #[.int .i64 o.kind, .int .i64 o.id, .int .i64 o.n, .string o.key] 24)) := (Fr.refl No w).alloc _
  have hbb := alloc_at w (.cells #[.int .i64 o.kind, .int .i64 o.id, .int .i64 o.n, .string o.key] 24) w.heap.size rfl
  have HFB := Lib.hid hfb
  have HBB := Lib.hid hbb
  clear hfb hbb
  go_wp2_with (first
    | (go_at_call 28; (with_reducible refine (HKC.out _).mono ?_); rintro e w1 ⟨rfl, hf1⟩
       have hb1 := hf1.heap HBB.out fun h => h
       obtain ⟨x0, x1, x2, x3⟩ := cells4 hb1
       have lb1 := heap_lt hb1
       have HF1 := Lib.hid (HFB.out.trans0 hf1)
       clear hf1 hb1)
    | (go_at_call 42; (with_reducible refine (HOP.out _ HF1.out).mono ?_); rintro e w2 ⟨re, rfl, H2⟩))
  refine bodyPost_ret (results_tmp4 rfl _ _ _) rfl ?_
  have h2 := H2.out
  unfold rattTo at h2
  have hst := HST.out
  cases hg : getR R o.id with
  | none =>
    rw [hg] at h2 hst
    dsimp only at h2 hst
    obtain ⟨e1, h3⟩ := h2
    cases e1
    exact ask_of HF1.out (by rw [hst]; exact h3) (by rw [hst])
  | some x =>
    rw [hg] at h2 hst
    dsimp only at h2 hst
    obtain ⟨e1, h3⟩ := h2
    cases e1
    exact ask_of HF1.out (by rw [hst]; exact h3) (by rw [hst])
set_option maxHeartbeats 4000000 in
theorem ask_detach {n : Nat} (hn : n ≤ 1000) {w : World} {t : Nat} {v : Value} {P : List (LV × Value)} {G : Nat → Prop} (h : Rf w t v P G) (hok : ROk n (P.map (·.1))) (o : LOp) (hk : o.kind % 8 = 5) :
    Calls Try.prog 23 #[.pointer (some ⟨t, 0, none⟩), opV o] w fun e w' => AskTo w w' t (P.map (·.1)) G o e := by
  have hlen : P.length ≤ 100000 := by have := hok.len; rw [List.length_map] at this; omega
  have hkl : ∀ p ∈ P, p.1.keys.length ≤ 100000 := fun p hp => by have := (hok.klen p.1 (List.mem_map.2 ⟨p, hp, rfl⟩)).1; omega
  have hbl : ∀ p ∈ P, 0 ≤ p.1.left ∧ p.1.left ≤ maxT := fun p hp => by have := hok.num p.1 (List.mem_map.2 ⟨p, hp, rfl⟩); unfold maxT at *; omega
  have hr := hok.rise
  have hop := fun W (hW : Fr No w W) => ((rdetach_calls (h.fr0 hW) hlen hkl o.key).mono fun e w2 h2 => (show e = .returned (.int .i64 (ofR (P.map (·.1)) o.key)) ∧ RfTo W w2 t (detachR (P.map (·.1)) o.key) G from ⟨h2.1, v, h2.2⟩))
  have hst : stepR (P.map (·.1)) o = (⟨0, ofR (P.map (·.1)) o.key, [], []⟩, detachR (P.map (·.1)) o.key) := by unfold stepR; rw [if_neg (by omega), if_neg (by omega), if_neg (by omega), if_neg (by omega), if_pos hk]
  have hkc := fun W => kind_calls W o 5 hk
  generalize P.map (·.1) = R at *
  have HOP := Lib.hid hop
  have HST := Lib.hid hst
  have HKC := Lib.hid hkc
  clear hop hst hkc h hk hlen hkl hbl hr hok hn
  unfold opV at HKC ⊢
  go_enter Try.func23, Try.ntmps23
  have hfb : Fr No w (w.alloc (.cells #[.int .i64 o.kind, .int .i64 o.id, .int .i64 o.n, .string o.key] 24)) := (Fr.refl No w).alloc _
  have hbb := alloc_at w (.cells #[.int .i64 o.kind, .int .i64 o.id, .int .i64 o.n, .string o.key] 24) w.heap.size rfl
  have HFB := Lib.hid hfb
  have HBB := Lib.hid hbb
  clear hfb hbb
  go_wp2_with (first
    | (go_at_call 28; (with_reducible refine (HKC.out _).mono ?_); rintro e w1 ⟨rfl, hf1⟩
       have hb1 := hf1.heap HBB.out fun h => h
       obtain ⟨x0, x1, x2, x3⟩ := cells4 hb1
       have lb1 := heap_lt hb1
       have HF1 := Lib.hid (HFB.out.trans0 hf1)
       clear hf1 hb1)
    | (go_at_call 43; (with_reducible refine (HOP.out _ HF1.out).mono ?_); rintro e w2 ⟨rfl, h2⟩; have H2 := Lib.hid (And.intro True.intro h2); clear h2))
  refine bodyPost_ret (results_tmp4 rfl _ _ _) rfl ?_
  exact ask_of HF1.out (by rw [HST.out]; exact H2.out.2) (by rw [HST.out])
set_option maxHeartbeats 4000000 in
theorem ask_tick6 {n : Nat} (hn : n ≤ 1000) {w : World} {t : Nat} {v : Value} {P : List (LV × Value)} {G : Nat → Prop} (h : Rf w t v P G) (hok : ROk n (P.map (·.1))) (o : LOp) (hk : o.kind % 8 = 6) :
    Calls Try.prog 23 #[.pointer (some ⟨t, 0, none⟩), opV o] w fun e w' => AskTo w w' t (P.map (·.1)) G o e := by
  have hlen : P.length ≤ 100000 := by have := hok.len; rw [List.length_map] at this; omega
  have hkl : ∀ p ∈ P, p.1.keys.length ≤ 100000 := fun p hp => by have := (hok.klen p.1 (List.mem_map.2 ⟨p, hp, rfl⟩)).1; omega
  have hbl : ∀ p ∈ P, 0 ≤ p.1.left ∧ p.1.left ≤ maxT := fun p hp => by have := hok.num p.1 (List.mem_map.2 ⟨p, hp, rfl⟩); unfold maxT at *; omega
  have hr := hok.rise
  have hop := fun W (hW : Fr No w W) => (rtick_at (h.fr0 hW) hlen hbl o.n)
  have hst : stepR (P.map (·.1)) o = (⟨0, 0, [], toldR (P.map (·.1)) o.n⟩, tickR (P.map (·.1)) o.n) := by unfold stepR; rw [if_neg (by omega), if_neg (by omega), if_neg (by omega), if_neg (by omega), if_neg (by omega)]
  have hkc := fun W => kind_calls W o 6 hk
  generalize P.map (·.1) = R at *
  have HOP := Lib.hid hop
  have HST := Lib.hid hst
  have HKC := Lib.hid hkc
  clear hop hst hkc h hk hlen hkl hbl hr hok hn
  unfold opV at HKC ⊢
  go_enter Try.func23, Try.ntmps23
  have hfb : Fr No w (w.alloc (.cells #[.int .i64 o.kind, .int .i64 o.id, .int .i64 o.n, .string o.key] 24)) := (Fr.refl No w).alloc _
  have hbb := alloc_at w (.cells #[.int .i64 o.kind, .int .i64 o.id, .int .i64 o.n, .string o.key] 24) w.heap.size rfl
  have HFB := Lib.hid hfb
  have HBB := Lib.hid hbb
  clear hfb hbb
  go_wp2_with (first
    | (go_at_call 28; (with_reducible refine (HKC.out _).mono ?_); rintro e w1 ⟨rfl, hf1⟩
       have hb1 := hf1.heap HBB.out fun h => h
       obtain ⟨x0, x1, x2, x3⟩ := cells4 hb1
       have lb1 := heap_lt hb1
       have HF1 := Lib.hid (HFB.out.trans0 hf1)
       clear hf1 hb1)
    | (go_at_call 44; (with_reducible refine (HOP.out _ HF1.out).mono ?_); rintro e w2 ⟨ra, rk, rc, rfl, H2⟩))
  refine bodyPost_ret (results_tmp4 rfl _ _ _) rfl ?_
  obtain ⟨h2, rfl, h3⟩ := H2.out
  unfold AskTo
  rw [HST.out]
  exact ⟨none, 0, ra, rc, rfl, Lib.hid ⟨SlF.nil _ _ _ _, h2, h3.from_ HF1.out⟩⟩
set_option maxHeartbeats 4000000 in
theorem ask_tick7 {n : Nat} (hn : n ≤ 1000) {w : World} {t : Nat} {v : Value} {P : List (LV × Value)} {G : Nat → Prop} (h : Rf w t v P G) (hok : ROk n (P.map (·.1))) (o : LOp) (hk : o.kind % 8 = 7) :
    Calls Try.prog 23 #[.pointer (some ⟨t, 0, none⟩), opV o] w fun e w' => AskTo w w' t (P.map (·.1)) G o e := by
  have hlen : P.length ≤ 100000 := by have := hok.len; rw [List.length_map] at this; omega
  have hkl : ∀ p ∈ P, p.1.keys.length ≤ 100000 := fun p hp => by have := (hok.klen p.1 (List.mem_map.2 ⟨p, hp, rfl⟩)).1; omega
  have hbl : ∀ p ∈ P, 0 ≤ p.1.left ∧ p.1.left ≤ maxT := fun p hp => by have := hok.num p.1 (List.mem_map.2 ⟨p, hp, rfl⟩); unfold maxT at *; omega
  have hr := hok.rise
  have hop := fun W (hW : Fr No w W) => (rtick_at (h.fr0 hW) hlen hbl o.n)
  have hst : stepR (P.map (·.1)) o = (⟨0, 0, [], toldR (P.map (·.1)) o.n⟩, tickR (P.map (·.1)) o.n) := by unfold stepR; rw [if_neg (by omega), if_neg (by omega), if_neg (by omega), if_neg (by omega), if_neg (by omega)]
  have hkc := fun W => kind_calls W o 7 hk
  generalize P.map (·.1) = R at *
  have HOP := Lib.hid hop
  have HST := Lib.hid hst
  have HKC := Lib.hid hkc
  clear hop hst hkc h hk hlen hkl hbl hr hok hn
  unfold opV at HKC ⊢
  go_enter Try.func23, Try.ntmps23
  have hfb : Fr No w (w.alloc (.cells #[.int .i64 o.kind, .int .i64 o.id, .int .i64 o.n, .string o.key] 24)) := (Fr.refl No w).alloc _
  have hbb := alloc_at w (.cells #[.int .i64 o.kind, .int .i64 o.id, .int .i64 o.n, .string o.key] 24) w.heap.size rfl
  have HFB := Lib.hid hfb
  have HBB := Lib.hid hbb
  clear hfb hbb
  go_wp2_with (first
    | (go_at_call 28; (with_reducible refine (HKC.out _).mono ?_); rintro e w1 ⟨rfl, hf1⟩
       have hb1 := hf1.heap HBB.out fun h => h
       obtain ⟨x0, x1, x2, x3⟩ := cells4 hb1
       have lb1 := heap_lt hb1
       have HF1 := Lib.hid (HFB.out.trans0 hf1)
       clear hf1 hb1)
    | (go_at_call 44; (with_reducible refine (HOP.out _ HF1.out).mono ?_); rintro e w2 ⟨ra, rk, rc, rfl, H2⟩))
  refine bodyPost_ret (results_tmp4 rfl _ _ _) rfl ?_
  obtain ⟨h2, rfl, h3⟩ := H2.out
  unfold AskTo
  rw [HST.out]
  exact ⟨none, 0, ra, rc, rfl, Lib.hid ⟨SlF.nil _ _ _ _, h2, h3.from_ HF1.out⟩⟩
theorem asked_calls {n : Nat} (hn : n ≤ 1000) {w : World} {t : Nat} {v : Value} {P : List (LV × Value)} {G : Nat → Prop} (h : Rf w t v P G) (hok : ROk n (P.map (·.1))) (o : LOp) :
    Calls Try.prog 23 #[.pointer (some ⟨t, 0, none⟩), opV o] w fun e w' => AskTo w w' t (P.map (·.1)) G o e := by
  have h0 : 0 ≤ o.kind % 8 := Int.emod_nonneg _ (by omega)
  have h1 : o.kind % 8 < 8 := Int.emod_lt_of_pos _ (by omega)
  by_cases k0 : o.kind % 8 = 0
  · exact ask_grant hn h hok o k0
  by_cases k1 : o.kind % 8 = 1
  · exact ask_revoke hn h hok o k1
  by_cases k2 : o.kind % 8 = 2
  · exact ask_renew hn h hok o k2
  by_cases k3 : o.kind % 8 = 3
  · exact ask_attach3 hn h hok o k3
  by_cases k4 : o.kind % 8 = 4
  · exact ask_attach4 hn h hok o k4
  by_cases k5 : o.kind % 8 = 5
  · exact ask_detach hn h hok o k5
  by_cases k6 : o.kind % 8 = 6
  · exact ask_tick6 hn h hok o k6
  · exact ask_tick7 hn h hok o (by omega)
end Go.Proofs.Ytlomeohcgjgpjaa
