/- The package gens: Put and Tombstone of a key, told by lists alone. The package gens: what a key shows at a revision (upTo, At). No condition but that lists stay short. -/
import Derived.Test.YthljnnjpmdgkoaaG02
namespace Go.Proofs.Ythljnnjpmdgkoaa
open Go Go.Proofs Go.RowKit
set_option maxRecDepth 100000

/-- A key's object: its generations, the last change, the blocks that are its own. -/
def KeyAt (w : World) (g : Nat) (K : List Gen) (last : Int) (F : Nat → Prop) : Prop :=
  ∃ gv Z, KeyRep w g gv Z last ∧ Z.map (·.1) = K ∧ ∀ b, F b ↔ keyF g gv Z b

theorem keyF_lt {w : World} {g : Nat} {gv : Value} {Z : List (Gen × Value)} {last : Int} (h : KeyRep w g gv Z last) : ∀ b, keyF g gv Z b → b < w.heap.size := by
  rintro b (rfl | e | ⟨i, p, hp, e⟩)
  · exact h.obj.lt
  · exact h.gens.lt b e
  · exact (h.puts i p hp).lt b e
theorem KeyAt.lt {w : World} {g : Nat} {K : List Gen} {last : Int} {F : Nat → Prop} (h : KeyAt w g K last F) : ∀ b, F b → b < w.heap.size := by
  obtain ⟨gv, Z, h, _, hF⟩ := h
  exact fun b hb => keyF_lt h b ((hF b).1 hb)
theorem KeyRep.fr {w w' : World} {g : Nat} {gv : Value} {Z : List (Gen × Value)} {last : Int} {S : Nat → Prop} (h : KeyRep w g gv Z last) (hf : Fr S w w') (hn : ∀ b, keyF g gv Z b → ¬ S b) : KeyRep w' g gv Z last :=
  ⟨h.obj.fr hf (hn g (.inl rfl)), h.gens.fr hf fun k hk => hn k (.inr (.inl hk)), fun i p hp => (h.puts i p hp).fr hf fun k hk => hn k (.inr (.inr ⟨i, p, hp, hk⟩)), h.apart, h.apart2, h.own⟩
theorem KeyAt.fr {w w' : World} {g : Nat} {K : List Gen} {last : Int} {F S : Nat → Prop} (h : KeyAt w g K last F) (hf : Fr S w w') (hn : ∀ b, F b → ¬ S b) : KeyAt w' g K last F := by
  obtain ⟨gv, Z, h, hZ, hF⟩ := h
  exact ⟨gv, Z, h.fr hf fun b hb => hn b ((hF b).2 hb), hZ, hF⟩

def putK (K : List Gen) (rev : Int) : List Gen :=
  if isOpen K then K.modify (K.length - 1) fun x => { x with puts := x.puts ++ [rev] } else K ++ [{ create := rev, cut := 0, puts := [rev], end_ := 0 }]

/-- The bounds by which the counts stay small. -/
def Fits (K : List Gen) : Prop := K.length ≤ 1099511627 ∧ ∀ x ∈ K, x.puts.length ≤ 1099511627 ∧ 0 ≤ x.cut ∧ x.cut ≤ 1099511627776

theorem put_calls (w : World) (g : Nat) (K : List Gen) (last rev : Int) (F : Nat → Prop) (h : KeyAt w g K last F) (hK : Fits K) :
    Calls Try.prog 145 #[.pointer (some ⟨g, 0, none⟩), .int .i64 rev] w fun e w' => e = .returned (.int .i64 0) ∧
      ∃ F', KeyAt w' g (putK K rev) last F' ∧ Fr F w w' ∧ (∀ b, F' b → F b ∨ w.heap.size ≤ b) := by
  obtain ⟨gv, Z, h, rfl, hF⟩ := h
  have hl : Z.length ≤ 1099511627 := by have := hK.1; simpa using this
  by_cases ho : isOpen (Z.map (·.1)) = true
  · have hz : Z.length ≠ 0 := by
      intro hz
      obtain rfl := List.eq_nil_of_length_eq_zero hz
      simp [isOpen] at ho
    obtain ⟨x, pv, hx⟩ : ∃ x pv, Z[Z.length - 1]? = some (x, pv) := ⟨_, _, List.getElem?_eq_getElem (by omega)⟩
    have hp : x.puts.length ≤ 1099511627 := (hK.2 x (List.mem_map.2 ⟨_, List.mem_of_getElem? hx, rfl⟩)).1
    refine (put_open w g gv Z last rev x pv h hx ho (by omega) (by omega)).mono ?_
    rintro e w' ⟨rfl, v', h', hf, hv⟩
    refine ⟨rfl, _, ⟨gv, _, h', ?_, fun b => Iff.rfl⟩, hf.mono fun b _ hb => (hF b).2 hb, ?_⟩
    · unfold putK
      rw [if_pos ho]
      apply List.ext_getElem?
      intro i
      have hzl : Z.length - 1 < Z.length := by omega
      by_cases hi : Z.length - 1 = i
      · subst hi
        have hx' : Z[Z.length - 1] = (x, pv) := (List.getElem?_eq_some_iff.1 hx).2
        simp [hzl, hx']
      · simp [hi]
    · rintro b (rfl | e | ⟨i, q, hq, e⟩)
      · exact .inl ((hF _).2 (.inl rfl))
      · exact .inl ((hF _).2 (.inr (.inl e)))
      · rw [List.getElem?_set] at hq
        split at hq
        · split at hq
          · simp at hq
            subst hq
            rcases hv b e with e | e
            · exact .inl ((hF _).2 (.inr (.inr ⟨_, _, hx, e⟩)))
            · exact .inr e
          · cases hq
        · exact .inl ((hF _).2 (.inr (.inr ⟨_, _, hq, e⟩)))
  · simp only [Bool.not_eq_true] at ho
    refine (put_new w g gv Z last rev h ho hl).mono ?_
    rintro e w' ⟨rfl, gv', v', h', hf, hv, hgv⟩
    refine ⟨rfl, _, ⟨gv', _, h', ?_, fun b => Iff.rfl⟩, hf.mono fun b _ hb => (hF b).2 hb, ?_⟩
    · unfold putK
      rw [ho]
      simp [zeroGen]
    · rintro b (rfl | e | ⟨i, q, hq, e⟩)
      · exact .inl ((hF _).2 (.inl rfl))
      · rcases hgv b e with e | e
        · exact .inl ((hF _).2 (.inr (.inl e)))
        · exact .inr e
      · rw [List.getElem?_append] at hq
        split at hq
        · exact .inl ((hF _).2 (.inr (.inr ⟨_, _, hq, e⟩)))
        · rw [List.getElem?_singleton] at hq
          split at hq
          · simp at hq
            subst hq
            exact .inr (hv b e)
          · cases hq

theorem KeyAt.setLast {w w' : World} {g : Nat} {K : List Gen} {last : Int} {F : Nat → Prop} (h : KeyAt w g K last F) (rev : Int) (hw : w' = w.setCell ⟨g, 1, none⟩ (.int .i64 rev)) : KeyAt w' g K rev F := by
  subst hw
  obtain ⟨gv, Z, h, hZ, hF⟩ := h
  refine ⟨gv, Z, ⟨h.obj.set 1 _, h.gens.other _ _ h.own, fun i p hp => (h.puts i p hp).other _ _ fun e => (h.apart i p hp _ e).1 rfl, h.apart, h.apart2, h.own⟩, hZ, hF⟩
theorem KeyAt.cells {w : World} {g : Nat} {K : List Gen} {last : Int} {F : Nat → Prop} (h : KeyAt w g K last F) : w.cell? ⟨g, 1, none⟩ = some (.int .i64 last) ∧ w.frozen? ⟨g, 1, none⟩ = false ∧ F g ∧ g < w.heap.size := by
  obtain ⟨gv, Z, h, hZ, hF⟩ := h
  exact ⟨h.obj.cell 1 rfl, h.obj.free 1, (hF g).2 (.inl rfl), h.obj.lt⟩

/-- 'Put' of a revision behind the last one. -/
theorem Put_calls (w : World) (g : Nat) (K : List Gen) (last rev : Int) (F : Nat → Prop) (h : KeyAt w g K last F) (hK : Fits K) (h1 : 1 ≤ rev) (h2 : rev ≤ 1099511627776) (h3 : last < rev) :
    Calls Try.prog 125 #[.pointer (some ⟨g, 0, none⟩), .int .i64 rev] w fun e w' => e = .returned (.int .i64 0) ∧
      ∃ F', KeyAt w' g (putK K rev) rev F' ∧ Fr F w w' ∧ (∀ b, F' b → F b ∨ w.heap.size ≤ b) := by
  have hput := put_calls w g K last rev F h hK
  obtain ⟨hc, hfr, hFg, hgl⟩ := h.cells
  have hmf : ∀ (fn : Fn) (first cap : Array Value) (w : World), (Instr.makeFunc fn first cap).run Try.prog w = .ok (.func fn first cap) w := fun _ _ _ _ => rfl
  have t1 : ¬ rev < 1 := by omega
  have t2 : ¬ 1099511627776 < rev := by omega
  have t3 : ¬ rev ≤ last := by omega
  clear h hK
  go_enter Try.func125, Try.ntmps125
  go_wp2_with (first
    | (go_at_call 145; refine hput.mono ?_; clear hput; rintro e w1 ⟨rfl, F', hk1, hf1, hF1⟩; obtain ⟨hc1, hfr1, _, _⟩ := hk1.cells; have HK := Lib.hid hk1; clear hk1)
    | (go_at_call 131; go_in))
  go_ret
  refine ⟨rfl, F', HK.out.setLast rev rfl, hf1.setCell (.inl hFg) _, hF1⟩

def tombK (K : List Gen) (rev : Int) : List Gen := K.modify (K.length - 1) fun x => { x with end_ := rev }

theorem tombstone_calls (w : World) (g : Nat) (K : List Gen) (last rev : Int) (F : Nat → Prop) (h : KeyAt w g K last F) (hK : Fits K) (ho : isOpen K = true) :
    Calls Try.prog 132 #[.pointer (some ⟨g, 0, none⟩), .int .i64 rev] w fun e w' => e = .returned (.int .i64 0) ∧ KeyAt w' g (tombK K rev) last F ∧ Fr F w w' := by
  obtain ⟨gv, Z, h, rfl, hF⟩ := h
  have hl : Z.length ≤ 1099511627 := by have := hK.1; simpa using this
  have hz : Z.length ≠ 0 := by
    intro hz
    obtain rfl := List.eq_nil_of_length_eq_zero hz
    simp [isOpen] at ho
  obtain ⟨x, pv, hx⟩ : ∃ x pv, Z[Z.length - 1]? = some (x, pv) := ⟨_, _, List.getElem?_eq_getElem (by omega)⟩
  obtain ⟨a, cap, rfl, hc1, hc2, ha⟩ := h.gens.shape
  obtain ⟨gb, go, rfl⟩ := ha (by omega)
  have hopen := open_some w g gb go cap Z last h ho (by omega)
  have hc := h.gens.cell genC_length (Z.length - 1) 3 hx rfl
  have hfr := h.gens.free (go + (Z.length - 1) * 4 + 3)
  have hzl : Z.length - 1 < Z.length := by omega
  have hgb : gb < w.heap.size := h.gens.lt gb rfl
  have H := Lib.hid h; clear h
  have HX := Lib.hid hx; clear hx
  clear ha ho hK hz
  have HF := Lib.hid hF; clear hF
  go_enter Try.func132, Try.ntmps132
  go_wp2_with (go_at_call 148; refine hopen.mono ?_; clear hopen; rintro e w' ⟨rfl, rfl⟩)
  go_ret
  have h := H.out
  have hx := HX.out
  have hF := HF.out
  refine ⟨rfl, ⟨.slice (some ⟨gb, go, none⟩) Z.length cap, Z.set (Z.length - 1) ({ x with end_ := rev }, pv), ?_, ?_, ?_⟩, (Fr.refl _ w).setCell (p := ⟨gb, go + (Z.length - 1) * 4 + 3, none⟩) (.inl ((hF gb).2 (.inr (.inl rfl)))) _⟩
  · constructor
    · exact h.obj.other _ _ fun e => h.own (by rw [e]; rfl)
    · simpa using h.gens.set genC_length _ 3 (by omega) (x, pv) ({ x with end_ := rev }, pv) _ hx rfl
    · intro i q hq
      rw [List.getElem?_set] at hq
      split at hq
      · simp at hq
        subst hq
        exact (h.puts _ _ hx).other _ _ fun e => (h.apart _ _ hx _ e).2 rfl
      · exact (h.puts _ _ hq).other _ _ fun e => (h.apart _ _ hq _ e).2 rfl
    · intro i q hq b hb
      rw [List.getElem?_set] at hq
      split at hq
      · simp at hq
        subst hq
        exact h.apart _ _ hx b hb
      · exact h.apart _ _ hq b hb
    · intro i j q r hq hr b hb hb'
      rw [List.getElem?_set] at hq hr
      split at hq <;> split at hr
      · omega
      · rename_i e1 e2
        simp at hq
        subst hq
        exact e1 ▸ h.apart2 _ _ _ _ hx hr b hb hb'
      · rename_i e1 e2
        simp at hr
        subst hr
        exact e2 ▸ h.apart2 _ _ _ _ hq hx b hb hb'
      · exact h.apart2 _ _ _ _ hq hr b hb hb'
    · exact h.own
  · unfold tombK
    apply List.ext_getElem?
    intro i
    by_cases hi : Z.length - 1 = i
    · subst hi
      have hx' : Z[Z.length - 1] = (x, pv) := (List.getElem?_eq_some_iff.1 hx).2
      simp [hzl, hx']
    · simp [hi]
  · intro b
    rw [hF]
    constructor
    · rintro (rfl | e | ⟨i, q, hq, e⟩)
      · exact .inl rfl
      · exact .inr (.inl e)
      · by_cases hi : Z.length - 1 = i
        · subst hi
          rw [hx] at hq
          cases hq
          exact .inr (.inr ⟨Z.length - 1, ({ x with end_ := rev }, pv), by simp [hzl], e⟩)
        · exact .inr (.inr ⟨i, q, by simp [hi, hq], e⟩)
    · rintro (rfl | e | ⟨i, q, hq, e⟩)
      · exact .inl rfl
      · exact .inr (.inl e)
      · rw [List.getElem?_set] at hq
        split at hq
        · simp at hq
          subst hq
          exact .inr (.inr ⟨_, _, hx, e⟩)
        · exact .inr (.inr ⟨_, _, hq, e⟩)

/-- 'Tombstone' of a revision behind the last one, where a generation is open. -/
theorem Tombstone_calls (w : World) (g : Nat) (K : List Gen) (last rev : Int) (F : Nat → Prop) (h : KeyAt w g K last F) (hK : Fits K) (ho : isOpen K = true) (h1 : 1 ≤ rev) (h2 : rev ≤ 1099511627776) (h3 : last < rev) :
    Calls Try.prog 113 #[.pointer (some ⟨g, 0, none⟩), .int .i64 rev] w fun e w' => e = .returned (.int .i64 0) ∧ KeyAt w' g (tombK K rev) rev F ∧ Fr F w w' := by
  have htomb := tombstone_calls w g K last rev F h hK ho
  obtain ⟨hc, hfr, hFg, hgl⟩ := h.cells
  have hmf : ∀ (fn : Fn) (first cap : Array Value) (w : World), (Instr.makeFunc fn first cap).run Try.prog w = .ok (.func fn first cap) w := fun _ _ _ _ => rfl
  have t1 : ¬ rev < 1 := by omega
  have t2 : ¬ 1099511627776 < rev := by omega
  have t3 : ¬ rev ≤ last := by omega
  clear h hK ho
  go_enter Try.func113, Try.ntmps113
  go_wp2_with (first
    | (go_at_call 132; refine htomb.mono ?_; clear htomb; rintro e w1 ⟨rfl, hk1, hf1⟩; obtain ⟨hc1, hfr1, _, _⟩ := hk1.cells; have HK := Lib.hid hk1; clear hk1)
    | (go_at_call 131; go_in))
  go_ret
  exact ⟨rfl, HK.out.setLast rev rfl, hf1.setCell (.inl hFg) _⟩

/-- 'New': a key without changes. -/
theorem GensNew_calls (w : World) : Calls Try.prog 124 #[] w fun e w' => ∃ g, e = .returned (.pointer (some ⟨g, 0, none⟩)) ∧ ∃ F, KeyAt w' g [] 0 F ∧ Fr No w w' ∧ (∀ b, F b → w.heap.size ≤ b) := by
  go_enter Try.func124, Try.ntmps124
  go_wp2
  go_ret
  refine ⟨_, rfl, keyF w.heap.size (.slice none 0 0) [], ⟨.slice none 0 0, [], ⟨Has.new w _ _, SlF.nil _ _ _ _, by simp, by simp, by simp, by simp [Value.ownBlock]⟩, rfl, fun b => Iff.rfl⟩, (Fr.refl _ w).alloc _, ?_⟩
  rintro b (rfl | e | ⟨i, q, hq, e⟩)
  · omega
  · simp [Value.ownBlock] at e
  · simp at hq
end Go.Proofs.Ythljnnjpmdgkoaa

namespace Go.Proofs.Ythljnnjpmdgkoaa
open Go Go.Proofs Go.RowKit
set_option maxRecDepth 100000

def upTo (l : List Int) (rev : Int) : Nat := l.findIdx fun p => decide (rev < p)

def idxInt (l : List Int) (rev : Int) : Int := if upTo l rev = l.length then -1 else (upTo l rev : Int)

/-- 'slices.IndexFunc(puts, func(p int) bool { return p > rev })'. -/
theorem indexInt_calls (w : World) (v : Value) (l : List Int) (rev : Int) (tb : Nat) (hv : SlF w 3 1 int1 v l) (hl : l.length ≤ 1099511627776) (ht : w.cell? ⟨tb, 0, none⟩ = some (.int .i64 rev)) :
    Calls Try.prog 134 #[v, .func (.func 135) #[] #[.pointer (some ⟨tb, 0, none⟩)]] w fun e w' => e = .returned (.int .i64 (idxInt l rev)) ∧ w = w' := by
  obtain ⟨a, cap, rfl, hc1, hc2, ha⟩ := hv.shape
  have HV := Lib.hid hv; clear hv
  have HA := Lib.hid ha; clear ha
  go_enter Try.func134, Try.ntmps134
  go_wp2
  go_loopg [8] l.length (fun g s8 wr => ∃ i : Nat, s8 = .int .i64 i ∧ i + g = l.length ∧ Hid (∀ j, j < i → ¬ rev < l[j]?.getD 0) ∧ w = wr)
  case atStart => exact ⟨0, rfl, by simp, Lib.hid (by simp), rfl⟩
  case round =>
    obtain ⟨i, rfl, hi, HJ, rfl⟩ := hrel
    cases gk with
    | zero =>
      have hil : ¬ (i : Int) < (l.length : Int) := by omega
      go_wp2
      go_ret
      refine ⟨?_, rfl⟩
      have hu : upTo l rev = l.length := by
        unfold upTo
        rw [List.findIdx_eq_length]
        intro x hx
        obtain ⟨j, hj, rfl⟩ := List.getElem_of_mem hx
        have := HJ.out j (by omega)
        simpa [hj] using this
      unfold idxInt
      rw [if_pos hu]
      rfl
    | succ g =>
      obtain ⟨gb, go, rfl⟩ := HA.out (by omega)
      have hx : l[i]? = some (l[i]'(by omega)) := List.getElem?_eq_getElem (by omega)
      have hcx := HV.out.cell1 int1_length i hx rfl
      have hil : (i : Int) < (l.length : Int) := by omega
      by_cases hp : rev < l[i]'(by omega)
      · have hpd : decide (rev < l[i]'(by omega)) = true := by simpa using hp
        have Hx := Lib.hid hx
        have Hp := Lib.hid hp
        clear hx hp
        go_wp2
        go_ret
        refine ⟨?_, rfl⟩
        have hu : upTo l rev = i := by
          unfold upTo
          rw [List.findIdx_eq (by omega)]
          refine ⟨by simpa using Hp.out, fun j hj => ?_⟩
          have := HJ.out j hj
          have hjl : j < l.length := by omega
          simpa [hjl] using this
        unfold idxInt
        rw [if_neg (by omega), hu]
        rfl
      · have hpd : decide (rev < l[i]'(by omega)) = false := by simpa using hp
        have Hx := Lib.hid hx
        have Hp := Lib.hid hp
        clear hx hp
        go_wp2
        go_roundg g
        case rel =>
          refine ⟨i + 1, by go_num, by omega, Lib.hid fun j hj => ?_, rfl⟩
          by_cases hji : j = i
          · subst hji
            rw [Hx.out]
            exact Hp.out
          · exact HJ.out j (by omega)
        case measure => omega

theorem upTo_le (l : List Int) (rev : Int) : upTo l rev ≤ l.length := List.findIdx_le_length

/-- 'g.upTo(rev)'. -/
theorem upTo_calls (w : World) (x : Gen) (pv : Value) (rev : Int) (hv : SlF w 3 1 int1 pv x.puts) (hl : x.puts.length ≤ 1099511627776) :
    Calls Try.prog 118 #[.agg #[.int .i64 x.create, .int .i64 x.cut, pv, .int .i64 x.end_], .int .i64 rev] w fun e w' => e = .returned (.int .i64 (upTo x.puts rev)) ∧ Fr No w w' := by
  have hmf : ∀ (fn : Fn) (first cap : Array Value) (w : World), (Instr.makeFunc fn first cap).run Try.prog w = .ok (.func fn first cap) w := fun _ _ _ _ => rfl
  obtain ⟨a, cap, rfl, hc1, hc2, ha⟩ := hv.shape
  have hidx := fun W hw ht => indexInt_calls W (.slice a x.puts.length cap) x.puts rev (w.heap.size + 1) hw hl ht
  have hle := upTo_le x.puts rev
  have HV := Lib.hid hv; clear hv ha
  by_cases hu : upTo x.puts rev = x.puts.length
  · have hi : idxInt x.puts rev = -1 := by unfold idxInt; rw [if_pos hu]
    rw [hi] at hidx
    have HU := Lib.hid hu; clear hu hi
    go_enter Try.func118, Try.ntmps118
    go_wp2_with (go_at_call 134; refine (hidx _ (by exact (HV.out.alloc _).alloc _) (by simp [go_sem])).mono ?_; rintro e w2 ⟨rfl, rfl⟩)
    go_ret
    exact ⟨by rw [HU.out]; rfl, ((Fr.refl _ w).alloc _).alloc _⟩
  · have hi : idxInt x.puts rev = (upTo x.puts rev : Int) := by unfold idxInt; rw [if_neg hu]
    rw [hi] at hidx
    generalize upTo x.puts rev = n at *
    clear hi hu
    go_enter Try.func118, Try.ntmps118
    go_wp2_with (go_at_call 134; refine (hidx _ (by exact (HV.out.alloc _).alloc _) (by simp [go_sem])).mono ?_; rintro e w2 ⟨rfl, rfl⟩)
    go_ret
    exact ⟨rfl, ((Fr.refl _ w).alloc _).alloc _⟩
end Go.Proofs.Ythljnnjpmdgkoaa
