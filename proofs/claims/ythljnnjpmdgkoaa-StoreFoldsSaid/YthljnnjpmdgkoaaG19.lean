/- The store's Drop: keys that live are deleted, at one revision. The condition: histories are small, there is a revision left. A Compact and a Drop keep a store good. Plain facts; no program is run. The store's goneBy: which revisions of a history are no longer seen from a revision on, in whatever order the map gives them. The condition: the history is small. The store's goneBy: all revisions of a history that are no longer seen from a revision on, and no others. The condition: the history is small. The range of all keys. Plain facts; no program is run. -/
import Derived.Test.YthljnnjpmdgkoaaG09
import Derived.Test.YthljnnjpmdgkoaaG18
import Derived.Test.YthljnnjpmdgkoaaG14
import Derived.Test.YthljnnjpmdgkoaaG05
import Derived.Test.YthljnnjpmdgkoaaG06
import Derived.Test.YthljnnjpmdgkoaaG07
import Derived.Maps.RangeRun
namespace Go.Proofs.Ythljnnjpmdgkoaa
open Go Go.Proofs Go.RowKit
set_option maxRecDepth 100000

/-- The event of a drop. -/
def dropE (k : ByteArray) (rev : Int) (x : Kv) : Ev := ⟨2, ⟨k, ByteArray.empty, 0, rev, 0, 0⟩, x⟩
def dropR (rev : Int) (q : St × List Ev) (k : ByteArray) : St × List Ev :=
  if (livesS q.1 k rev).2 then (doS q.1 (dropE k rev (livesS q.1 k rev).1), q.2 ++ [dropE k rev (livesS q.1 k rev).1]) else q
def dropTo (rev : Int) (S : St) (keys : List ByteArray) (i : Nat) : St × List Ev := (keys.take i).foldl (dropR rev) (S, [])
/-- The store behind a Drop. -/
def dropS (S : St) (keys : List ByteArray) : St :=
  if (keys.foldl (dropR (S.rev + 1)) (S, [])).2 = [] then (keys.foldl (dropR (S.rev + 1)) (S, [])).1 else { (keys.foldl (dropR (S.rev + 1)) (S, [])).1 with rev := S.rev + 1 }
theorem dropTo_succ (rev : Int) (S : St) (keys : List ByteArray) {i : Nat} {k : ByteArray} (h : keys[i]? = some k) : dropTo rev S keys (i + 1) = dropR rev (dropTo rev S keys i) k := by
  unfold dropTo
  rw [List.take_add_one, h, List.foldl_append]
  rfl

set_option maxHeartbeats 4000000 in
theorem Drop_calls {TA : TreeRel} {N : Nat} (hT : TreeOk TA N) {n : Nat} (hn : n ≤ 1099511627) (w : World) (s : Nat) (S : St) (F : Nat → Prop) (hS : StoreAt TA w s S F) (v : Value) (keys : List ByteArray) (hv : SlR w 1 strC v keys)
    (hvF : 0 < keys.length → ∀ b, v.ownBlock = some b → ¬ F b) (hkl : keys.length ≤ 1099511627) (hr0 : -top ≤ S.rev) (hr : S.rev < top)
    (hrun : ∀ i k, keys[i]? = some k → StOk n (dropTo (S.rev + 1) S keys i).1 ∧ (dropTo (S.rev + 1) S keys i).2.length ≤ 1099511627 ∧
      ((livesS (dropTo (S.rev + 1) S keys i).1 k (S.rev + 1)).2 = true → DoOk N (dropTo (S.rev + 1) S keys i).1 (dropE k (S.rev + 1) (livesS (dropTo (S.rev + 1) S keys i).1 k (S.rev + 1)).1))) :
    Calls Try.prog 42 #[.pointer (some ⟨s, 0, none⟩), v] w fun e w' => ∃ ev, e = .returned (.tuple #[ev, .int .i64 0]) ∧ ∃ F', StoreAt TA w' s (dropS S keys) F' ∧
      SlF w' 73 13 evC ev (keys.foldl (dropR (S.rev + 1)) (S, [])).2 ∧ Fr F w w' ∧ (∀ b, F' b → F b ∨ w.heap.size ≤ b) ∧ (∀ b, ev.ownBlock = some b → w.heap.size ≤ b ∧ ¬ F' b) := by
  obtain ⟨va, vcap, rfl, hc1, hc2, hva⟩ := hv.shape
  have hc3 : ∀ W, Fr No w W → W.cell? ⟨s, 3, none⟩ = some (.int .i64 S.rev) := fun W hW => by
    obtain ⟨t, p, ev, hp, FT, FH, a, hF⟩ := hS
    exact hW.cell0 (a.obj.cell 3 rfl)
  have c3 := hc3 _ ((Fr.refl No w).alloc (Obj.cells #[.pointer (some ⟨s, 0, none⟩)] 44))
  have c3' := hc3 _ (((Fr.refl No w).alloc (Obj.cells #[.pointer (some ⟨s, 0, none⟩)] 44)).alloc (Obj.cells #[.int .i64 (S.rev + 1)] 3))
  have lsw : s < w.heap.size := World.block_lt_of_cell? _ _ (hc3 _ (Fr.refl No w))
  have hmf : ∀ (fn : Fn) (first cap : Array Value) (w : World), (Instr.makeFunc fn first cap).run Try.prog w = .ok (.func fn first cap) w := fun _ _ _ _ => rfl
  have HV := Lib.hid hv
  have HVA := Lib.hid hva
  have HVF := Lib.hid hvF
  have HS := Lib.hid hS
  have HRUN := Lib.hid hrun
  have HLS := Lib.hid (hS.lt hT)
  have hrt : (S.rev == 1099511627776) = false := by rw [beq_eq_false_iff_ne]; unfold top at hr; omega
  have hr2 : S.rev < 1099511627776 := hr
  have hr3 : -1099511627776 ≤ S.rev := hr0
  have HAP : Hid (dropS S keys = if (keys.foldl (dropR (S.rev + 1)) (S, [])).2 = [] then (keys.foldl (dropR (S.rev + 1)) (S, [])).1 else { (keys.foldl (dropR (S.rev + 1)) (S, [])).1 with rev := S.rev + 1 }) := Lib.hid rfl
  have HALL : Hid (dropTo (S.rev + 1) S keys keys.length = keys.foldl (dropR (S.rev + 1)) (S, [])) := Lib.hid (by unfold dropTo; rw [List.take_length])
  clear hv hva hvF hS hrun hc3
  go_enter Try.func42, Try.ntmps42
  go_wp2_with fail
  have hb0 : ((w.alloc (Obj.cells #[.pointer (some ⟨s, 0, none⟩)] 44)).alloc (Obj.cells #[.int .i64 (S.rev + 1)] 3)).heap[w.heap.size]? = some (.cells #[.pointer (some ⟨s, 0, none⟩)] 44 (0, 0)) := alloc_old (alloc_at _ _ _ rfl) _
  have hb1 : ((w.alloc (Obj.cells #[.pointer (some ⟨s, 0, none⟩)] 44)).alloc (Obj.cells #[.int .i64 (S.rev + 1)] 3)).heap[w.heap.size + 1]? = some (.cells #[.int .i64 (S.rev + 1)] 3 (0, 0)) := alloc_at _ _ _ (by simp)
  have hw1 : Fr No w ((w.alloc (Obj.cells #[.pointer (some ⟨s, 0, none⟩)] 44)).alloc (Obj.cells #[.int .i64 (S.rev + 1)] 3)) := ((Fr.refl No w).alloc _).alloc _
  have hsz1 : ((w.alloc (Obj.cells #[.pointer (some ⟨s, 0, none⟩)] 44)).alloc (Obj.cells #[.int .i64 (S.rev + 1)] 3)).heap.size = w.heap.size + 2 := by simp
  generalize (w.alloc (Obj.cells #[.pointer (some ⟨s, 0, none⟩)] 44)).alloc (Obj.cells #[.int .i64 (S.rev + 1)] 3) = W1 at *
  have HB0 := Lib.hid hb0
  have HB1 := Lib.hid hb1
  have HW1 := Lib.hid hw1
  have HS1 := Lib.hid (HS.out.fr0 hT hw1)
  clear hb0 hb1 c3 c3' hw1
  go_loopg [34, 8] keys.length (fun g s34 s8 wr => ∃ (i : Nat) (out : Value) (F1 : Nat → Prop), s34 = .int .i64 i ∧ s8 = out ∧ i + g = keys.length ∧ Hid (StoreAt TA wr s (dropTo (S.rev + 1) S keys i).1 F1) ∧ Hid (SlF wr 73 13 evC out (dropTo (S.rev + 1) S keys i).2) ∧ Hid (Fr F W1 wr) ∧
    Hid (∀ b, F1 b → F b ∨ W1.heap.size ≤ b) ∧ Hid (∀ b, out.ownBlock = some b → W1.heap.size ≤ b ∧ ¬ F1 b))
  case atStart => exact ⟨0, _, F, rfl, rfl, by simp, HS1, Lib.hid (SlF.nil _ _ _ _), Lib.hid (Fr.refl _ _), Lib.hid (fun b h => .inl h), Lib.hid (fun b h => by simp [Value.ownBlock] at h)⟩
  case round =>
    obtain ⟨i, out, F1, rfl, rfl, hi, HST, HOUT, HFR, HF1, HOF⟩ := hrel
    have nb0 : ¬ F w.heap.size := fun h => by have := HLS.out _ h; omega
    have nb1 : ¬ F (w.heap.size + 1) := fun h => by have := HLS.out _ h; omega
    have hb0 := HFR.out.heap HB0.out nb0
    have hb1 := HFR.out.heap HB1.out nb1
    have lb0 := heap_lt hb0
    have lb1 := heap_lt hb1
    have q0 : wr.cell? ⟨w.heap.size, 0, none⟩ = some (.pointer (some ⟨s, 0, none⟩)) := by simp [World.cell?, hb0]
    have q1 : wr.cell? ⟨w.heap.size + 1, 0, none⟩ = some (.int .i64 (S.rev + 1)) := by simp [World.cell?, hb1]
    clear hb0 hb1
    obtain ⟨ea, ecap, rfl, he1, he2, he3⟩ := HOUT.out.shape
    clear he3
    cases gk with
    | zero =>
      have hil : ¬ (i : Int) < (keys.length : Int) := by omega
      have hie : i = keys.length := by omega
      subst hie
      rw [HALL.out] at HST HOUT he1 HOF
      generalize hR : keys.foldl (dropR (S.rev + 1)) (S, []) = r at *
      obtain ⟨t1, p1, ev1, hp1, FT1, FH1, a1, hF1⟩ := HST.out
      have c3 := a1.obj.cell 3 rfl
      have f3 := a1.obj.free 3
      have ls := a1.obj.lt
      have HA1 := Lib.hid a1
      have HF1' := Lib.hid hF1
      clear a1 hF1
      have hfw : Fr F w wr := (HW1.out.mono fun _ _ h => h.elim).trans HFR.out fun _ _ h => h
      have HFW := Lib.hid hfw
      clear hfw
      by_cases hE : r.2.length = 0
      · have hEz : ¬ (0 : Int) < (r.2.length : Int) := by omega
        have HEN := Lib.hid (List.eq_nil_of_length_eq_zero hE)
        clear hE
        rw [HALL.out]
        go_wp2
        go_ret2
        refine ⟨.slice ea r.2.length ecap, rfl, F1, ?_, ?_, HFW.out, fun b hb => ?_, fun b hb => ?_⟩
        · rw [HAP.out, if_pos HEN.out]; exact HST.out
        · exact HOUT.out
        · rcases HF1.out b hb with h | h
          · exact .inl h
          · exact .inr (by omega)
        · have := HOF.out b hb
          exact ⟨by omega, this.2⟩
      · have hEz : (0 : Int) < (r.2.length : Int) := by omega
        have HEN : Hid (¬ r.2 = []) := Lib.hid (fun h => hE (by rw [h]; rfl))
        have hF1s : F1 s := (HF1'.out s).2 (.inl rfl)
        clear hE
        rw [HALL.out]
        go_wp2
        go_ret2
        have hfs : Fr (fun b => b = s) wr (wr.setCell ⟨s, 3, none⟩ (.int .i64 (S.rev + 1))) := (Fr.refl _ wr).setAt 3 _
        have hA2 := HA1.out.setObj hT hfs r.1.next (S.rev + 1) r.1.mark (HA1.out.obj.set 3 (.int .i64 (S.rev + 1)))
        refine ⟨.slice ea r.2.length ecap, rfl, F1, ?_, ?_, ?_, fun b hb => ?_, fun b hb => ?_⟩
        · rw [HAP.out, if_neg HEN.out]; exact ⟨t1, p1, ev1, hp1, FT1, FH1, hA2, HF1'.out⟩
        · exact HOUT.out.fr hfs fun b hb e => (HOF.out b hb).2 (by have e' : b = s := e; rw [e']; exact hF1s)
        · refine HFW.out.trans hfs fun b hb e => ?_
          have e' : b = s := e
          subst e'
          rcases HF1.out b hF1s with h | h
          · exact h
          · omega
        · rcases HF1.out b hb with h | h
          · exact .inl h
          · exact .inr (by omega)
        · have := HOF.out b hb
          exact ⟨by omega, this.2⟩
    | succ g =>
      have hil : (i : Int) < (keys.length : Int) := by omega
      obtain ⟨gb, go, rfl⟩ := HVA.out (by omega)
      obtain ⟨k, hk⟩ : ∃ k, keys[i]? = some k := ⟨_, List.getElem?_eq_getElem (by omega)⟩
      have hvr := (HV.out.fr0 HW1.out).fr HFR.out (HVF.out (by omega))
      have x0' := hvr.cell0 strC_length i hk rfl
      have x0 : wr.cell? ⟨gb, go + i, none⟩ = some (.string k) := by simpa using x0'
      obtain ⟨d1, d2, d3⟩ := HRUN.out i k hk
      have hsu := dropTo_succ (S.rev + 1) S keys hk
      generalize dropTo (S.rev + 1) S keys i = q at *
      have hli := fun W hW => lives_calls hT hn W s q.1 F1 hW d1 k (S.rev + 1)
      unfold dropR at hsu
      obtain ⟨i0, hi0, hz0, hz1, hz2⟩ := info_parts info73
      rcases hl : livesS q.1 k (S.rev + 1) with ⟨⟨l1, l2, l3, l4, l5, l6⟩, lb⟩
      rw [hl] at hsu d3
      simp only [hl, kvTuple, kvV] at hli
      have HLI := Lib.hid hli
      have HSU := Lib.hid hsu
      have HD1 := Lib.hid d1
      have HD3 := Lib.hid d3
      clear hk hvr x0' hli hsu d1 d3 hl
      have hszr := HFR.out.size
      cases lb
      · go_wp2_with (go_at_call 79; refine (HLI.out _ HST.out).mono ?_; rintro e w2 ⟨rfl, hf2⟩)
        go_roundg g
        case rel =>
          have hsu := HSU.out.trans (if_neg Bool.false_ne_true)
          have hf3 := hf2.alloc (Obj.cells #[.string l1, .string l2, .int .i64 l3, .int .i64 l4, .int .i64 l5, .int .i64 l6] 57)
          exact ⟨i + 1, _, F1, by go_num, rfl, by omega, Lib.hid (by rw [hsu]; exact HST.out.fr0 hT hf3), Lib.hid (by rw [hsu]; exact HOUT.out.fr0 hf3), Lib.hid (HFR.out.trans0 hf3), HF1, HOF⟩
        case measure => omega
      · have hdo := fun W hW => do_calls hT hn W s q.1 F1 hW HD1.out (dropE k (S.rev + 1) ⟨l1, l2, l3, l4, l5, l6⟩) (HD3.out rfl)
        have HDO := Lib.hid hdo
        clear hdo
        go_wp2_with (first
          | (go_at_call 79; refine (HLI.out _ HST.out).mono ?_; rintro e w2 ⟨rfl, hf2⟩
             have q02 := hf2.cell0 q0
             have q12 := hf2.cell0 q1
             have lb02 := World.block_lt_of_cell? _ _ q02
             have lb12 := World.block_lt_of_cell? _ _ q12
             have hsz2 := hf2.size)
          | (go_at_call 75
             have hfa : Fr No wr ((w2.alloc (Obj.cells #[.string l1, .string l2, .int .i64 l3, .int .i64 l4, .int .i64 l5, .int .i64 l6] 57)).alloc (Obj.cells #[.int .i64 2, .string k, .string ByteArray.empty, .int .i64 0, .int .i64 (S.rev + 1), .int .i64 0, .int .i64 0, .string l1, .string l2, .int .i64 l3, .int .i64 l4, .int .i64 l5, .int .i64 l6] 73)) := (hf2.alloc _).alloc _
             have hbe : ((w2.alloc (Obj.cells #[.string l1, .string l2, .int .i64 l3, .int .i64 l4, .int .i64 l5, .int .i64 l6] 57)).alloc (Obj.cells #[.int .i64 2, .string k, .string ByteArray.empty, .int .i64 0, .int .i64 (S.rev + 1), .int .i64 0, .int .i64 0, .string l1, .string l2, .int .i64 l3, .int .i64 l4, .int .i64 l5, .int .i64 l6] 73)).heap[w2.heap.size + 1]? = some (.cells #[.int .i64 2, .string k, .string ByteArray.empty, .int .i64 0, .int .i64 (S.rev + 1), .int .i64 0, .int .i64 0, .string l1, .string l2, .int .i64 l3, .int .i64 l4, .int .i64 l5, .int .i64 l6] 73 (0, 0)) := alloc_at _ _ _ (by simp)
             have hF1lt := HST.out.lt hT
             have nbe : ¬ F1 (w2.heap.size + 1) := fun h => by have := hF1lt _ h; omega
             refine (HDO.out _ (HST.out.fr0 hT hfa)).mono ?_; rintro e w3 ⟨⟨rv, rfl⟩, F2, hs3, hf3, hF2⟩
             have hbe3 := hf3.heap hbe nbe
             have k0 : w3.cell? ⟨w2.heap.size + 1, 0, none⟩ = some (.int .i64 2) := by simp [World.cell?, hbe3]
             have k1 : w3.cell? ⟨w2.heap.size + 1, 1, none⟩ = some (.string k) := by simp [World.cell?, hbe3]
             have k2 : w3.cell? ⟨w2.heap.size + 1, 2, none⟩ = some (.string ByteArray.empty) := by simp [World.cell?, hbe3]
             have k3 : w3.cell? ⟨w2.heap.size + 1, 3, none⟩ = some (.int .i64 0) := by simp [World.cell?, hbe3]
             have k4 : w3.cell? ⟨w2.heap.size + 1, 4, none⟩ = some (.int .i64 (S.rev + 1)) := by simp [World.cell?, hbe3]
             have k5 : w3.cell? ⟨w2.heap.size + 1, 5, none⟩ = some (.int .i64 0) := by simp [World.cell?, hbe3]
             have k6 : w3.cell? ⟨w2.heap.size + 1, 6, none⟩ = some (.int .i64 0) := by simp [World.cell?, hbe3]
             have k7 : w3.cell? ⟨w2.heap.size + 1, 7, none⟩ = some (.string l1) := by simp [World.cell?, hbe3]
             have k8 : w3.cell? ⟨w2.heap.size + 1, 8, none⟩ = some (.string l2) := by simp [World.cell?, hbe3]
             have k9 : w3.cell? ⟨w2.heap.size + 1, 9, none⟩ = some (.int .i64 l3) := by simp [World.cell?, hbe3]
             have k10 : w3.cell? ⟨w2.heap.size + 1, 10, none⟩ = some (.int .i64 l4) := by simp [World.cell?, hbe3]
             have k11 : w3.cell? ⟨w2.heap.size + 1, 11, none⟩ = some (.int .i64 l5) := by simp [World.cell?, hbe3]
             have k12 : w3.cell? ⟨w2.heap.size + 1, 12, none⟩ = some (.int .i64 l6) := by simp [World.cell?, hbe3]
             have lbe := heap_lt hbe3
             have hnew := cells_new w3 (evC (dropE k (S.rev + 1) ⟨l1, l2, l3, l4, l5, l6⟩)) 73 (0, 0)
             have hou3 := (HOUT.out.fr0 hfa).fr hf3 fun b hb h => (HOF.out b hb).2 h
             have HOU3 := Lib.hid hou3
             have HS3 := Lib.hid hs3
             have HF3 := Lib.hid hf3
             have HF2 := Lib.hid hF2
             have HFA := Lib.hid hfa
             have HLT := Lib.hid hF1lt
             clear hou3 hs3 hf3 hF2 hfa hbe hbe3 nbe hF1lt)
          | (at_builtin; refine wpList_append_f rfl _ _ 34 rfl 73 i0 _ 13 136 Try.underlying34 hi0 hz0 hz1 hz2 rfl (by decide) _ q.2 rfl (HOU3.out.alloc _) w3.heap.size 1 (dropE k (S.rev + 1) ⟨l1, l2, l3, l4, l5, l6⟩) rfl hnew rfl ?c1 ?c2 ?c3 ?_))
        case c1 => intro u hu; simp [evC, kvC, dropE] at hu; rcases hu with rfl | rfl | rfl | rfl | rfl | rfl | rfl | rfl | rfl | rfl | rfl | rfl | rfl <;> rfl
        case c2 => unfold maxLen; omega
        case c3 => omega
        intro g7 o7 cap7 w4 hs4 hg4 hb4 hlt4
        go_wp2
        go_roundg g
        case rel =>
          have hsu := HSU.out.trans (if_pos trivial)
          have hsz3 := HF3.out.size
          have hszA := HFA.out.size
          have hf34 : Fr (fun b => (Value.slice ea q.2.length ecap).ownBlock = some b) w3 w4 := ((Fr.refl _ w3).alloc _).grown hg4 fun k hk => .inl hk
          have hg7 : (Value.slice ea q.2.length ecap).ownBlock = some g7 ∨ w3.heap.size ≤ g7 := by
            rcases hb4 with h | h
            · exact .inl h
            · right
              have h' : g7 = w3.heap.size + 1 := by simpa using h
              omega
          have hnF2 : ∀ b, (Value.slice ea q.2.length ecap).ownBlock = some b → ¬ F2 b := fun b hb h => by
            have hbl := HOUT.out.lt b hb
            rcases HF2.out b h with h | h
            · exact (HOF.out b hb).2 h
            · omega
          have hF2l := HS3.out.lt hT
          refine ⟨i + 1, _, F2, by go_num, rfl, by omega, Lib.hid (by rw [hsu]; exact HS3.out.fr hT hf34 fun b hb h => hnF2 b h hb), Lib.hid (by rw [hsu]; simpa using hs4), Lib.hid ?_, Lib.hid fun b hb => ?_, Lib.hid fun b hb => ?_⟩
          · refine ((HFR.out.trans0 HFA.out).trans HF3.out fun b hb h => ?_).trans hf34 fun b hb h => ?_
            · rcases HF1.out b h with h | h
              · exact h
              · omega
            · have := (HOF.out b h).1; omega
          · rcases HF2.out b hb with h | h
            · exact HF1.out b h
            · exact .inr (by omega)
          · obtain rfl : g7 = b := by simpa [Value.ownBlock] using hb
            rcases hg7 with h | h
            · exact ⟨(HOF.out g7 h).1, hnF2 g7 h⟩
            · exact ⟨by omega, fun h' => by have := hF2l g7 h'; omega⟩
        case measure => omega
end Go.Proofs.Ythljnnjpmdgkoaa

namespace Go.Proofs.Ythljnnjpmdgkoaa
open Go Go.Proofs Go.RowKit

theorem compS_T (R : Int) (S : St) : (compS R S).T = S.T.filter (keepP R S) := by
  unfold compS compTo
  simp
theorem compS_past (R : Int) (S : St) (j : Int) : (compS R S).past j = if j ∈ S.T.map (·.2) then compP R (S.past j) else S.past j := by
  unfold compS compTo
  dsimp only
  rw [List.take_length]
theorem compS_from {R : Int} {S : St} {j : Int} {G : Hist} (h : (compS R S).past j = some G) : ∃ H, S.past j = some H ∧ (G = H ∨ G = compH R H) := by
  rw [compS_past] at h
  split at h
  · unfold compP at h
    cases hH : S.past j with
    | none => rw [hH] at h; cases h
    | some H =>
      rw [hH] at h
      dsimp only at h
      split at h
      · cases h
      · exact ⟨H, rfl, .inr (Option.some.inj h).symm⟩
  · exact ⟨G, h, .inl rfl⟩
theorem Good.cut {k : Nat} {S : St} {D : Doc} (h : Good k S D) (hk : k ≤ 50000) {R : Int} (h1 : D.mark < R) (h2 : R ≤ D.rev) : Good k (compS R S) (D.cut R) := by
  have hT' := compS_T R S
  have hP' := compS_past R S
  have hsrt : Sorted (compS R S).T := by rw [hT']; exact List.Pairwise.sublist List.filter_sublist h.srt
  have hm0 := h.cpl.m0
  -- a key that is left has the number that it had
  have hin : ∀ key, (getT (compS R S).T key).2 = true → getT (compS R S).T key = getT S.T key ∧ (getT S.T key).2 = true ∧ keepP R S (key, (getT S.T key).1) = true := fun key hg => by
    have hm := getT_mem hg
    rw [hT'] at hm
    obtain ⟨a, b⟩ := List.mem_filter.1 hm
    have e1 := getT_of_mem h.srt a
    have e2 : getT (compS R S).T key = getT S.T key := by
      rw [e1]
      rw [hT']
      exact Prod.ext rfl (by rw [← hT']; exact hg)
    dsimp only at e1
    refine ⟨e2, by rw [← e2]; exact hg, ?_⟩
    rw [← e2, hT']
    exact b
  have hmem : ∀ key, (getT S.T key).2 = true → (getT S.T key).1 ∈ S.T.map (·.2) := fun key hg => List.mem_map.2 ⟨_, getT_mem hg, rfl⟩
  have hinv : SInv D.rev (compS R S) := by
    refine ⟨fun key key' a b e => ?_, fun key a => ?_, fun i G hG => ?_⟩
    · obtain ⟨a1, a2, _⟩ := hin key a
      obtain ⟨b1, b2, _⟩ := hin key' b
      rw [a1, b1] at e
      exact h.cpl.inv.inj key key' a2 b2 e
    · obtain ⟨a1, a2, a3⟩ := hin key a
      obtain ⟨H, hH⟩ := h.cpl.inv.has key a2
      unfold keepP at a3
      dsimp only at a3
      rw [hH] at a3
      dsimp only at a3
      refine ⟨compH R H, ?_⟩
      rw [a1, hP', if_pos (hmem key a2), hH]
      unfold compP
      dsimp only
      rw [if_neg (by simpa using a3)]
    · obtain ⟨H, hH, e | e⟩ := compS_from hG
      · rw [e]; exact h.cpl.inv.hist i H hH
      · rw [e]
        have := h.cpl.inv.hist i H hH
        exact ⟨⟨this.1.1.comp R, this.1.2⟩, this.2⟩
  have hlives : ∀ key r, R ≤ r → livesS (compS R S) key r = livesS S key r := fun key r hr => by
    cases hg : (getT S.T key).2 with
    | false =>
      have hg' : (getT (compS R S).T key).2 = false := by
        rw [Bool.eq_false_iff]
        intro hg'
        rw [(hin key hg').2.1] at hg; cases hg
      unfold livesS
      rw [hg, hg']
      simp
    | true =>
      obtain ⟨H, hH⟩ := h.cpl.inv.has key hg
      have hI := (h.cpl.inv.hist _ _ hH).1.1
      have hO := (h.more _ _ hH).ord
      by_cases hc : compK R H.gens = []
      · have hg' : (getT (compS R S).T key).2 = false := by
          rw [Bool.eq_false_iff]
          intro hg'
          have h3 := (hin key hg').2.2
          unfold keepP at h3
          dsimp only at h3
          rw [hH] at h3
          dsimp only at h3
          rw [hc] at h3
          simp at h3
        unfold livesS
        rw [hg, hg', if_pos rfl, hH, if_neg (by simp)]
        dsimp only
        rw [hadH_gone hO hr hI.zero hc]
      · have hm : (key, (getT S.T key).1) ∈ (compS R S).T := by
          rw [hT']
          refine List.mem_filter.2 ⟨getT_mem hg, ?_⟩
          unfold keepP
          dsimp only
          rw [hH]
          simpa using hc
        have e1 := getT_of_mem hsrt hm
        dsimp only at e1
        unfold livesS
        rw [e1, hg, if_pos rfl, if_pos rfl, hH]
        dsimp only
        rw [hP', if_pos (hmem key hg), hH]
        unfold compP
        dsimp only
        rw [if_neg (by simpa using hc)]
        exact hadH_comp hI hO hr
  exact {
    cpl := {
      mark := rfl
      events := by
        show S.events.filter (keptB R) = D.events.filter _
        rw [h.cpl.events]
        refine List.filter_congr fun e he => ?_
        have := (h.doc.lo e he).2.2
        unfold keptB oldB
        by_cases hm : e.kv.mod < R
        · have : ¬ R ≤ e.kv.mod := by omega
          simp [hm, this]
        · have h3 : R ≤ e.kv.mod := by omega
          simp [hm, h3, this]
      inv := hinv
      ks := Doc.at_sorted h.cpl.ks R
      m0 := ⟨by show 0 ≤ R; omega, h2⟩
      lives := fun key r hr => by
        have hr' : R ≤ r := hr
        rw [hlives key r hr', Doc.cut_at h.doc.es (by omega) hr' fun e he => (h.doc.lo e he).2.2]
        exact h.cpl.lives key r (by omega) }
    doc := h.doc.cut h.cpl.ks R h1 h2
    ok := {
      pos := h.ok.pos
      next := h.ok.next
      id := fun p hp => by
        have hg := getT_of_mem hsrt hp
        obtain ⟨G, hG⟩ := hinv.has p.1 (by rw [hg])
        rw [hg] at hG
        exact ⟨G, hG⟩
      ids := fun i G hG => by
        obtain ⟨H, hH, _⟩ := compS_from hG
        exact h.ok.ids i H hH
      hist := fun i G hG => by
        obtain ⟨H, hH, e | e⟩ := compS_from hG
        · rw [e]; exact h.ok.hist i H hH
        · rw [e]
          have := h.ok.hist i H hH
          exact ⟨this.1.comp (h.more i H hH) (by omega) R, this.2⟩
      rev0 := h.ok.rev0
      rev1 := h.ok.rev1
      mark0 := by show 0 ≤ R; omega
      ev := Nat.le_trans (List.length_filter_le _ _) h.ok.ev }
    size := by rw [hT']; exact Nat.le_trans (List.length_filter_le _ _) h.size
    srt := hsrt
    more := fun i G hG => by
      obtain ⟨H, hH, e | e⟩ := compS_from hG
      · rw [e]; exact h.more i H hH
      · rw [e]; exact (h.more i H hH).comp R
    rev := h.rev
    rev1 := h.rev1 }

theorem Good.events_pos {k : Nat} {S : St} {D : Doc} (h : Good k S D) (h1 : 1 ≤ D.rev) : 0 < S.events.length := by
  obtain ⟨e, he, _⟩ := h.doc.full D.rev h1 h.cpl.m0.2 (Int.le_refl _)
  rw [h.cpl.events]
  exact List.length_pos_of_mem he

/-- The ops that a Drop stands for. -/
def dropP (keys : List ByteArray) : List Opr := keys.map fun k => ⟨2, ⟨k, ByteArray.empty, 0, 0, false, false, false⟩, ByteArray.empty, 0⟩
theorem inB_self (k : ByteArray) : inB k k ByteArray.empty = true := by
  unfold inB
  rw [if_pos (by rw [Lib.toList_data]; rfl)]
  exact beq_self_eq_true _

theorem Good.drops {k : Nat} {S : St} {D : Doc} (h : Good k S D) (hk : k ≤ 70) (keys : List ByteArray) (_hl : keys.length ≤ 30) :
    ∀ i ≤ keys.length, RunOk (16 * k) (20000 * k + i) D (dropP keys) (dropTo (D.rev + 1) S keys i).1 (dropTo (D.rev + 1) S keys i).2 ∧
      ∀ key, keys[i]? = some key → (livesS (dropTo (D.rev + 1) S keys i).1 key (D.rev + 1)).2 = true → DoOk 1000000 (dropTo (D.rev + 1) S keys i).1 (dropE key (D.rev + 1) (livesS (dropTo (D.rev + 1) S keys i).1 key (D.rev + 1)).1) := by
  have hm0 := h.cpl.m0
  have hr1 := h.rev1
  have htop : D.rev + 1 ≤ top := by unfold top; omega
  -- a key that lives is dropped
  have step : ∀ i key (q : St × List Ev), keys[i]? = some key → RunOk (16 * k) (20000 * k + i) D (dropP keys) q.1 q.2 → (livesS q.1 key (D.rev + 1)).2 = true →
      DoOk 1000000 q.1 (dropE key (D.rev + 1) (livesS q.1 key (D.rev + 1)).1) ∧ RunOk (16 * k) (20000 * k + i + 1) D (dropP keys) (doS q.1 (dropE key (D.rev + 1) (livesS q.1 key (D.rev + 1)).1)) (q.2 ++ [dropE key (D.rev + 1) (livesS q.1 key (D.rev + 1)).1]) := fun i key q hx hq hlv => by
    have hpt := Doc.adds_parts D q.2
    have hlives := hq.cpl.lives key (D.rev + 1) (by rw [hpt.1]; omega)
    have hne : hasL ((D.adds q.2).at (D.rev + 1)) key ≠ none := fun e => by
      rw [hlives, e] at hlv
      cases hlv
    have hp : (livesS q.1 key (D.rev + 1)).1 = (hasL ((D.adds q.2).at (D.rev + 1)) key).getD kv0 := by
      rw [hlives]
      cases hasL ((D.adds q.2).at (D.rev + 1)) key <;> rfl
    have := hq.event (N := 1000000) (dropE key (D.rev + 1) (livesS q.1 key (D.rev + 1)).1) (by omega) rfl htop hm0.2 hp (fun e he hke => by
      have hke' : e.kv.key = key := hke
      rcases hq.by1 e he with ⟨_, o, ho, ho1, _⟩ | ⟨_, _, hn⟩
      · obtain ⟨k', _, rfl⟩ := List.mem_map.1 ho
        cases ho1
      · rw [hke'] at hn; exact hne hn) (by omega)
      (.inr ⟨rfl, ⟨⟨2, ⟨key, ByteArray.empty, 0, 0, false, false, false⟩, ByteArray.empty, 0⟩, List.mem_map.2 ⟨key, List.mem_of_getElem? hx, rfl⟩, rfl, inB_self key⟩, hne⟩)
    rw [if_neg (show ¬ (dropE key (D.rev + 1) (livesS q.1 key (D.rev + 1)).1).kind = 1 by show ¬ (2 : Int) = 1; decide)] at this
    exact this
  have key : ∀ i ≤ keys.length, RunOk (16 * k) (20000 * k + i) D (dropP keys) (dropTo (D.rev + 1) S keys i).1 (dropTo (D.rev + 1) S keys i).2 := by
    intro i
    induction i with
    | zero => intro _; exact h.begin.mono (Nat.le_refl _) (by omega) (by simp)
    | succ i ih =>
      intro hi
      obtain ⟨x, hx⟩ : ∃ x, keys[i]? = some x := ⟨_, List.getElem?_eq_getElem (by omega)⟩
      rw [dropTo_succ _ _ _ hx]
      have a := ih (by omega)
      unfold dropR
      split
      · rename_i hlv
        exact (step i x _ hx a hlv).2
      · exact a.mono (Nat.le_refl _) (by omega) fun _ h => h
  exact fun i hi => ⟨key i hi, fun x hx hlv => (step i x _ hx (key i hi) hlv).1⟩

/-- The document's store behind a Drop. -/
def dropD (S : St) (D : Doc) (keys : List ByteArray) : Doc := D.adds (keys.foldl (dropR (D.rev + 1)) (S, [])).2
theorem Good.drop {k : Nat} {S : St} {D : Doc} (h : Good k S D) (hk : k ≤ 70) (keys : List ByteArray) (hl : keys.length ≤ 30) : Good (k + 1) (dropS S keys) (dropD S D keys) := by
  obtain ⟨a, _⟩ := h.drops hk keys hl keys.length (Nat.le_refl _)
  have he : dropTo (D.rev + 1) S keys keys.length = keys.foldl (dropR (D.rev + 1)) (S, []) := by unfold dropTo; rw [List.take_length]
  rw [he] at a
  have hD := Doc.adds_rev D (keys.foldl (dropR (D.rev + 1)) (S, [])).2 _ a.mods
  have hr := h.rev
  have hr1 := h.rev1
  unfold dropS dropD
  rw [hr]
  by_cases hE : (keys.foldl (dropR (D.rev + 1)) (S, [])).2 = []
  · rw [if_pos hE]
    rw [if_pos hE] at hD
    exact { cpl := a.cpl, doc := a.doc.mono (by omega), ok := a.ok.mono (by omega), size := by have := a.size; omega, srt := a.srt, more := a.more.mono (by omega), rev := by rw [a.srev, hD], rev1 := by rw [hD]; omega }
  · rw [if_neg hE]
    rw [if_neg hE] at hD
    have hm0 := h.cpl.m0
    exact { cpl := a.cpl.setRev _, doc := a.doc.mono (by omega), ok := (a.ok.mono (by omega)).setRev _ (by unfold top; omega) (by unfold top; omega), size := by have := a.size; dsimp only; omega, srt := a.srt, more := fun i H hi => a.more.mono (by omega) i H hi, rev := hD.symm, rev1 := by rw [hD]; omega }

end Go.Proofs.Ythljnnjpmdgkoaa

namespace Go.Proofs.Ythljnnjpmdgkoaa
open Go Go.Proofs Go.RowKit
set_option maxRecDepth 100000

/-- Is what a history has at a revision gone? -/
def goneK (H : Hist) (rev r : Int) : Prop := H.kvs r ≠ none ∧ r ≤ rev ∧ r ≠ (atK H.gens rev).1.2.1

theorem nodup_le {α : Type} [DecidableEq α] : ∀ (a b : List α), a.Nodup → (∀ x ∈ a, x ∈ b) → a.length ≤ b.length
  | [], _, _, _ => by simp
  | x :: a, b, hn, hs => by
    have hx := hs x (by simp)
    obtain ⟨h1, h2⟩ := List.nodup_cons.1 hn
    have h3 := nodup_le a (b.erase x) h2 fun y hy => (List.mem_erase_of_ne (fun e => h1 (by rw [← e]; exact hy))).2 (hs y (by simp [hy]))
    have h4 := List.length_erase_of_mem hx
    have h5 : 0 < b.length := List.length_pos_of_mem hx
    simp only [List.length_cons]
    omega

theorem left_nil (es : Array MapEntry) : (leftOf es #[]).size = es.size := by
  unfold leftOf
  rw [Array.filter_eq_self.2 (fun x _ => by simp)]
theorem set_iter_fr {W wr w2 : World} (hF : Fr No W wr) (hw2 : w2 = wr ∨ w2 = wr.drew) (o : Obj) : Fr No W (ChangeMaps.setBlock w2 W.heap.size o) := by
  have hF2 : Fr No W w2 := by 
    rcases hw2 with rfl | rfl
    · exact hF
    · exact hF.drew
  exact ⟨hF2.os, hF2.tape, hF2.output, by have := hF2.size; simpa [ChangeMaps.setBlock] using this, fun k hk hS => (setB_other w2 _ k _ (by omega)).trans (hF2.block k hk hS)⟩

end Go.Proofs.Ythljnnjpmdgkoaa

namespace Go.Proofs.Ythljnnjpmdgkoaa
open Go Go.Proofs Go.RowKit
set_option maxRecDepth 100000

theorem seen_next {es : Array MapEntry} {seen : Array Nat} {e : MapEntry} (hnd : (es.toList.map (·.born)).Nodup) (he : e ∈ es.toList) {P : MapEntry → Prop} (h : ∀ x ∈ es.toList, seen.contains x.born = true → P x) (hP : P e) :
    ∀ x ∈ es.toList, (seen.push e.born).contains x.born = true → P x := by
  intro x hx hc
  rw [contains_push, Bool.or_eq_true] at hc
  rcases hc with hc | hc
  · exact h x hx hc
  · have hb : x.born = e.born := by simpa using hc
    have : x = e := by
      obtain ⟨i, hi⟩ := List.mem_iff_getElem?.1 hx
      obtain ⟨j, hj⟩ := List.mem_iff_getElem?.1 he
      have hil := (List.getElem?_eq_some_iff.1 hi).1
      have h1 : (es.toList.map (·.born))[i]? = (es.toList.map (·.born))[j]? := by rw [List.getElem?_map, List.getElem?_map, hi, hj]; simp [hb]
      have := (List.getElem?_inj (by simpa using hil) hnd).1 h1
      subst this
      rw [hi] at hj
      exact Option.some.inj hj
    rw [this]; exact hP
theorem left_done {es : Array MapEntry} {seen : Array Nat} (h : (leftOf es seen).size = 0) : ∀ x ∈ es.toList, seen.contains x.born = true := by
  intro x hx
  cases hc : seen.contains x.born with
  | true => rfl
  | false =>
    have hm : x ∈ leftOf es seen := Array.mem_filter.2 ⟨by simpa using hx, by rw [hc]; rfl⟩
    have := Array.size_pos_of_mem hm
    omega

set_option maxHeartbeats 4000000 in
theorem goneByG_calls (w : World) (h : Nat) (H : Hist) (rev : Int) (F : Nat → Prop) (hh : HistAt w h H F) (hK : Fits H.gens) (hl : ∃ l : List Int, l.length ≤ 1099511627 ∧ ∀ r, H.kvs r ≠ none → r ∈ l) :
    Calls Try.prog 87 #[.pointer (some ⟨h, 0, none⟩), .int .i64 rev] w fun e w' => ∃ v out, e = .returned v ∧ SlF w' 3 1 int1 v out ∧ Fr No w w' ∧ (∀ b, v.ownBlock = some b → w.heap.size ≤ b) ∧ (∀ r, r ∈ out ↔ goneK H rev r) := by
  obtain ⟨g, m, FK, a, hF⟩ := hh
  have hat := fun W (hW : Fr No w W) => At_calls W g H.gens H.last rev FK (a.key.fr hW fun _ _ h => h) hK
  unfold seenTuple seenV at hat
  have c0 := a.obj.cell 0 rfl
  have c1 := a.obj.cell 1 rfl
  have lh := a.obj.lt
  obtain ⟨es, clock, hb, hst, hk1, hk2⟩ := a.map
  have hgk : ∀ r, goneK H rev r ↔ H.kvs r ≠ none ∧ r ≤ rev ∧ r ≠ (atK H.gens rev).1.2.1 := fun r => Iff.rfl
  have hes : es.size ≤ 1099511627 := by
    obtain ⟨l, hl1, hl2⟩ := hl
    have := by
      classical
      exact nodup_le (es.toList.map (·.key)) (l.map (Value.int .i64)) hst.2.2 fun x hx => by
        obtain ⟨e, he, rfl⟩ := List.mem_map.1 hx
        obtain ⟨n, h1, _, h2⟩ := hk1 e he
        exact List.mem_map.2 ⟨n, hl2 n (fun h0 => by simp [h0] at h2), h1.symm⟩
    simp only [List.length_map, Array.length_toList] at this
    omega
  generalize atK H.gens rev = sn at *
  obtain ⟨⟨q1, q2, q3⟩, qb⟩ := sn
  dsimp only at hat hgk
  have HAT := Lib.hid hat
  have HGK := Lib.hid hgk
  have HB := Lib.hid hb
  have HST := Lib.hid hst
  have HK1 := Lib.hid hk1
  have HK2 := Lib.hid hk2
  clear hat hgk a hF hK hb hst hk1 hk2 hl
  go_enter Try.func87, Try.ntmps87
  go_upto_region 3 with (go_at_call 109; refine (HAT.out _ (Fr.refl No w)).mono ?_; rintro e w1 ⟨rfl, hf1⟩)
  have hbs : ((w1.alloc (Obj.cells #[.int .i64 q1, .int .i64 q2, .int .i64 q3] 182))).heap[w1.heap.size]? = some (.cells #[.int .i64 q1, .int .i64 q2, .int .i64 q3] 182 (0, 0)) := alloc_at _ _ _ rfl
  have hfW : Fr No w (w1.alloc (Obj.cells #[.int .i64 q1, .int .i64 q2, .int .i64 q3] 182)) := hf1.alloc _
  have hszw : w.heap.size ≤ w1.heap.size := hf1.size
  generalize w1.alloc (Obj.cells #[.int .i64 q1, .int .i64 q2, .int .i64 q3] 182) = W at hbs hfW ⊢
  have c1W := hfW.cell0 c1
  have lhW : h < W.heap.size := Nat.lt_of_lt_of_le lh hfW.size
  have hbW := hfW.heap HB.out id
  have hrg := run_range_map (P := Try.prog) W 144 3 57 m es clock Try.underlying144 hbW
  have HBS := Lib.hid hbs
  have HFW := Lib.hid hfW
  have lbs := heap_lt hbs
  clear hbs hfW hbW hf1 c0 c1
  go_wp2
  go_loopg [5] es.size (fun gg s5 wr => ∃ (seen : Array Nat) (k0 : Nat) (v : Value) (out : List Int), s5 = v ∧ gg = (leftOf es seen).size ∧ clock ≤ k0 ∧ out.length + gg ≤ es.size ∧ Hid (wr.heap[W.heap.size]? = some (.mapIter (some m) clock seen k0)) ∧
    Hid (SlF wr 3 1 int1 v out) ∧ Hid (∀ b, v.ownBlock = some b → W.heap.size < b) ∧ Hid (∀ r ∈ out, goneK H rev r) ∧ Hid (Fr No W wr) ∧ Hid (∀ x ∈ es.toList, seen.contains x.born = true → ∀ n, x.key = .int .i64 n → goneK H rev n → n ∈ out))
  case atStart => exact ⟨#[], clock, _, [], rfl, by rw [left_nil], Nat.le_refl _, by simp, Lib.hid (heap_alloc_new _ _), Lib.hid (SlF.nil _ _ _ _), Lib.hid (by simp [Value.ownBlock]), Lib.hid (by simp), Lib.hid ((Fr.refl No W).alloc _), Lib.hid (by simp)⟩
  case round =>
    obtain ⟨seen, k0, v, out, rfl, hgg, hk0, hol, HI, HS, HO, HG, HF, HC⟩ := hrel
    have hbr := HF.out.heap (HFW.out.heap HB.out id) id
    have hnx := _root_.Go.run_next_at (P := Try.prog) wr 0 W.heap.size m clock k0 seen es clock HI.out hbr HST.out.1 hk0
    rcases hnx with ⟨h0, hrun⟩ | ⟨e, he, w2, hw2, hrun⟩
    · clear hbr
      go_wp2
      go_ret
      exact ⟨_, out, rfl, HS.out, HFW.out.trans0 HF.out, fun b hb => by have := HO.out b hb; have := HFW.out.size; omega, fun r => ⟨HG.out r, fun hr => by
        cases hkv : H.kvs r with
        | none => exact absurd hkv hr.1
        | some y =>
          obtain ⟨e, he, he1, _⟩ := HK2.out r (kvV y) (by simp [hkv])
          exact HC.out e he (left_done h0 e he) r he1 hr⟩⟩
    · obtain ⟨he1, he2⟩ := mem_left he
      obtain ⟨n, hkey, hwf, hval⟩ := HK1.out e he1
      have hsh := left_shrinks es seen e he
      have hsn := fun (out' : List Int) (h1 : ∀ m ∈ out, m ∈ out') (h2 : goneK H rev n → n ∈ out') => seen_next (P := fun x => ∀ m, x.key = .int .i64 m → goneK H rev m → m ∈ out') HST.out.2.1 he1 (fun x hx hc m hm hg => h1 m (HC.out x hx hc m hm hg)) (fun m hm hg => by rw [hkey] at hm; cases hm; exact h2 hg)
      have HSN := Lib.hid hsn
      clear hsn
      have hlr : W.heap.size < wr.heap.size := heap_lt HI.out
      have hlw : W.heap.size < w2.heap.size := by rcases hw2 with rfl | rfl <;> exact hlr
      have hf3 := set_iter_fr HF.out hw2 (.mapIter (some m) clock (seen.push e.born) clock)
      have hi3 := setB_at w2 W.heap.size (.mapIter (some m) clock (seen.push e.born) clock) hlw
      have hso : ∀ k, k ≠ W.heap.size → (ChangeMaps.setBlock w2 W.heap.size (.mapIter (some m) clock (seen.push e.born) clock)).heap[k]? = wr.heap[k]? := fun k hk => (setB_other w2 _ k _ hk).trans (by rcases hw2 with rfl | rfl <;> rfl)
      have hsz3 : (ChangeMaps.setBlock w2 W.heap.size (.mapIter (some m) clock (seen.push e.born) clock)).heap.size = wr.heap.size := by rcases hw2 with rfl | rfl <;> simp [ChangeMaps.setBlock]
      have hfr3 : Fr (fun b => b = W.heap.size) wr (ChangeMaps.setBlock w2 W.heap.size (.mapIter (some m) clock (seen.push e.born) clock)) := by
        rcases hw2 with rfl | rfl
        · exact ⟨rfl, rfl, rfl, Nat.le_of_eq hsz3.symm, fun k _ hk => hso k hk⟩
        · exact ⟨rfl, rfl, rfl, Nat.le_of_eq hsz3.symm, fun k _ hk => hso k hk⟩
      have hb3 := hf3.heap (HFW.out.heap HB.out id) id
      have hent := run_entry_at (P := Try.prog) _ W.heap.size m clock seen es clock e hi3 hb3 he1 HST.out.2.1
      have hs3 : SlF (ChangeMaps.setBlock w2 W.heap.size (.mapIter (some m) clock (seen.push e.born) clock)) 3 1 int1 u5 out := HS.out.fr hfr3 fun b hb e' => by
        have e'' : b = W.heap.size := e'
        have := HO.out b hb
        omega
      have hbs3 := hf3.heap HBS.out id
      rw [hkey] at hrun hent
      have hnn : H.kvs n ≠ none := fun h0 => by simp [h0] at hval
      generalize ChangeMaps.setBlock w2 W.heap.size (.mapIter (some m) clock (seen.push e.born) clock) = W3 at *
      have y1 : W3.cell? ⟨w1.heap.size, 1, none⟩ = some (.int .i64 q2) := by simp [World.cell?, hbs3]
      have ly := heap_lt hbs3
      have HF3 := Lib.hid hf3
      have HI3 := Lib.hid hi3
      have HS3 := Lib.hid hs3
      have HSH := Lib.hid hsh
      have HNN := Lib.hid hnn
      have hW3 : W.heap.size ≤ W3.heap.size := hf3.size
      obtain ⟨i0, hi0, hz0, hz1, hz2⟩ := info_parts info3
      have hol2 : out.length ≤ 1099511627 := by omega
      generalize hgs : (leftOf es (seen.push e.born)).size = gs at *
      have HGS := Lib.hid hgs
      clear hf3 hi3 hs3 hsh hnn hbs3 hb3 hso hsz3 hfr3 hbr he he1 he2 hkey hwf hval hw2 hlw hlr hgs
      by_cases t1 : n ≤ rev
      · by_cases t2 : n = q2
        · subst t2
          go_wp2
          go_roundg gs
          case rel => exact ⟨seen.push e.born, clock, u5, out, rfl, HGS.out.symm, Nat.le_refl _, by have := HSH.out; omega, HI3, HS3, HO, HG, HF3, Lib.hid (HSN.out out (fun _ h => h) fun hg => absurd rfl ((HGK.out _).1 hg).2.2)⟩
          case measure => have := HSH.out; omega
        · have t2' : (n != q2) = true := by simpa using t2
          have hnew := cells_new W3 [.int .i64 n] 3 (0, 0)
          go_wp2_with (at_builtin; go_loud (refine wpList_append_f rfl _ _ 149 rfl 3 i0 _ 1 8 Try.underlying149 hi0 hz0 hz1 hz2 rfl (by decide) _ out rfl (HS3.out.alloc _) W3.heap.size 1 n rfl hnew rfl ?c1 ?c2 ?c3 ?_))
          case c1 => intro u hu; simp [int1] at hu; subst hu; rfl
          case c2 => unfold maxLen; omega
          case c3 => omega
          intro g7 o7 cap7 w6 hs6 hg6 hb6 hlt6
          have hf6 : Fr (fun b => u5.ownBlock = some b) (W3.alloc (Obj.cells [.int .i64 n].toArray 3)) w6 := (Fr.refl _ _).grown hg6 fun k hk => .inl hk
          have hf36 : Fr (fun b => u5.ownBlock = some b) W3 w6 := ((Fr.refl _ W3).alloc _).trans hf6 fun _ _ h => h
          have hi6 := hf36.heap HI3.out (fun h => by have := HO.out _ h; omega)
          have hF6 : Fr No W w6 := HF3.out.trans hf36 fun b hb h => by have := HO.out b h; omega
          have HI6 := Lib.hid hi6
          have HF6 := Lib.hid hF6
          have HS6 := Lib.hid hs6
          have hgn : goneK H rev n := (HGK.out n).2 ⟨HNN.out, t1, t2⟩
          have HGN := Lib.hid hgn
          have ho6 : ∀ b, (Value.slice (some ⟨g7, o7, none⟩) (out.length + 1) cap7).ownBlock = some b → W.heap.size < b := fun b hb => by
            obtain rfl : g7 = b := by simpa [Value.ownBlock] using hb
            rcases hb6 with h | h
            · exact HO.out _ h
            · have h' : g7 = W3.heap.size + 1 := by simpa using h
              omega
          have HO6 := Lib.hid ho6
          clear hf6 hf36 hi6 hF6 hs6 hgn ho6 hg6 hb6
          go_wp2
          go_roundg gs
          case rel => exact ⟨seen.push e.born, clock, _, out ++ [n], rfl, HGS.out.symm, Nat.le_refl _, by have := HSH.out; simp; omega, HI6, Lib.hid (by simpa using HS6.out), HO6, Lib.hid (fun r hr => by
            rcases List.mem_append.1 hr with h | h
            · exact HG.out r h
            · rw [List.mem_singleton.1 h]; exact HGN.out), HF6, Lib.hid (HSN.out (out ++ [n]) (fun m h => List.mem_append_left _ h) fun _ => by simp)⟩
          case measure => have := HSH.out; omega
      · have t1' : ¬ n ≤ rev := t1
        go_wp2
        go_roundg gs
        case rel => exact ⟨seen.push e.born, clock, u5, out, rfl, HGS.out.symm, Nat.le_refl _, by have := HSH.out; omega, HI3, HS3, HO, HG, HF3, Lib.hid (HSN.out out (fun _ h => h) fun hg => by have h1 := ((HGK.out _).1 hg).2.1; omega)⟩
        case measure => have := HSH.out; omega
end Go.Proofs.Ythljnnjpmdgkoaa

namespace Go.Proofs.Ythljnnjpmdgkoaa
open Go Go.Proofs Go.RowKit
set_option maxRecDepth 100000

theorem klt_empty (a : ByteArray) : klt a ⟨#[]⟩ = false := by
  rw [Bool.eq_false_iff]
  intro h
  have := klt_iff.1 h
  exact absurd this (by simp)
theorem rangeT_all (T : Pairs) : rangeT T ⟨#[]⟩ ⟨#[]⟩ = T := by
  unfold rangeT
  rw [List.filter_eq_self]
  intro q _
  rw [klt_empty, show (⟨#[]⟩ : ByteArray).toList.isEmpty = true from by rw [Lib.toList_data]; rfl]
  rfl

end Go.Proofs.Ythljnnjpmdgkoaa
