/- The store's 'put': a key is given what it has from a revision on. The condition: histories are small, the tree has room. The package names: wrong, Runes, Key; what they answer, in the model's own decoding. The condition: a text is of less than 2^40 bytes. The store's Asks, one, and what Check's inner functions answer. The condition: texts are of less than 2^40 bytes. -/
import Derived.Test.YthljnnjpmdgkoaaG05
import Derived.Test.YthljnnjpmdgkoaaG02
import Derived.Test.YthljnnjpmdgkoaaG00
import Derived.Deep.DeepCutAuto
import Derived.Test.YthljnnjpmdgkoaaProg
import Derived.Laws.RangeString
import Derived.Lib.Bytealg
import Derived.Lib.RuneCount
import Derived.BigQuiet
namespace Go.Proofs.Ythljnnjpmdgkoaa
open Go Go.Proofs Go.RowKit
set_option maxRecDepth 100000

def putH (H : Hist) (x : Kv) : Hist := { gens := putK H.gens x.mod, last := x.mod, kvs := fun r => if r = x.mod then some x else H.kvs r }
def newH : Hist := { gens := [], last := 0, kvs := fun _ => none }
/-- The number of a key's history. -/
def idS (S : St) (key : ByteArray) : Int := if (getT S.T key).2 then (getT S.T key).1 else S.next
/-- A key has a history. -/
def madeS (S : St) (key : ByteArray) : St :=
  if (getT S.T key).2 then S else { S with T := insT S.T key S.next, past := fun i => if i = S.next then some newH else S.past i, next := S.next + 1 }
def putS (S : St) (x : Kv) : St :=
  { madeS S x.key with past := fun i => if i = idS S x.key then some (putH (((madeS S x.key).past (idS S x.key)).getD newH) x) else (madeS S x.key).past i }

theorem newHist_at {W : World} {h g m : Nat} {FK : Nat → Prop} (ho : Has W h [.pointer (some ⟨g, 0, none⟩), .map (some m)]) (hk : KeyAt W g [] 0 FK) (hm : MapAt W m fun _ => none) (d1 : ¬ FK h) (d2 : ¬ FK m) :
    HistAt W h newH (fun b => b = h ∨ b = m ∨ FK b) := ⟨g, m, FK, ⟨ho, hk, hm, d1, d2⟩, fun _ => Iff.rfl⟩

theorem made_mid {TA : TreeRel} {N : Nat} (hT : TreeOk TA N) {w2 W4 : World} {s t p : Nat} {ev : Value} {hp : Int → Option Nat} {FT : Nat → Prop} {FH : Int → Nat → Prop} {S : St} (a : StoreR TA w2 s t p ev hp FT FH S) (id : Int)
    (hid : S.past id = none) (hwf : (Lit.int .i64 id).wf = true) (hf : Fr No w2 W4) {h : Nat} {F' : Nat → Prop} (hh : HistAt W4 h newH F') (hn : ∀ b, F' b → w2.heap.size ≤ b) :
    StoreR TA (mapUpW Try.prog 119 p id (.pointer (some ⟨h, 0, none⟩)) W4) s t p ev (fun i => if i = id then some h else hp i) FT (fun i => if i = id then F' else FH i) { S with past := fun i => if i = id then some newH else S.past i } ∧
      Fr (fun b => b = p) W4 (mapUpW Try.prog 119 p id (.pointer (some ⟨h, 0, none⟩)) W4) := by
  obtain ⟨_, h2, h3, _⟩ := (a.map.fr hf (fun s => s)).up (P := Try.prog) (t := 119) (k := 3) Try.underlying119 Try.underlying3 hwf (.pointer (some ⟨h, 0, none⟩))
  refine ⟨(a.fr hT hf fun _ _ s => s).addHist hT hid h3 h2 (B := w2.heap.size) (a.lt hT) (hh.fr h3 fun b hb e => ?_) hn, h3⟩
  have h4 := hn b hb
  have h5 := a.map.lt
  have h6 : b = p := e
  omega

set_option maxHeartbeats 4000000 in
theorem put_store {TA : TreeRel} {N : Nat} (hT : TreeOk TA N) {n : Nat} (hn : n ≤ 1099511627) (w : World) (s : Nat) (S : St) (F : Nat → Prop) (hS : StoreAt TA w s S F) (hok : StOk n S) (x : Kv)
    (hroom : (getT S.T x.key).2 = false → S.T.length < N) (hm1 : 1 ≤ x.mod) (hm2 : x.mod ≤ top) (hlast : ∀ H, S.past (getT S.T x.key).1 = some H → (getT S.T x.key).2 = true → H.last < x.mod) :
    Calls Try.prog 111 #[.pointer (some ⟨s, 0, none⟩), kvV x] w fun e w' => (∃ v, e = .returned v) ∧ ∃ F', StoreAt TA w' s (putS S x) F' ∧ Fr F w w' ∧ (∀ b, F' b → F b ∨ w.heap.size ≤ b) := by
  obtain ⟨t, p, ev, hp, FT, FH, a, hF⟩ := hS
  obtain ⟨x1, x2, x3, x4, x5, x6⟩ := x
  have c0 := a.obj.cell 0 rfl
  have l1 := a.obj.lt
  have hget := fun W hW => hT.get (w := W) (t := t) (T := S.T) (F := FT) x1 hW
  have HG := Lib.hid hget
  have HA := Lib.hid a
  have HFF := Lib.hid hF
  unfold kvV
  dsimp only at *
  clear hget a hF
  go_enter Try.func111, Try.ntmps111
  go_wp2_with fail
  have hk := alloc_at w (Obj.cells #[.string x1, .string x2, .int .i64 x3, .int .i64 x4, .int .i64 x5, .int .i64 x6] 57) _ rfl
  have hf0 : Fr No w (w.alloc (Obj.cells #[.string x1, .string x2, .int .i64 x3, .int .i64 x4, .int .i64 x5, .int .i64 x6] 57)) := (Fr.refl No w).alloc _
  generalize w.alloc (Obj.cells #[.string x1, .string x2, .int .i64 x3, .int .i64 x4, .int .i64 x5, .int .i64 x6] 57) = W0 at hk hf0 ⊢
  have k0 : W0.cell? ⟨w.heap.size, 0, none⟩ = some (.string x1) := by simp [World.cell?, hk]
  have e0 := hf0.cell0 c0
  go_region_held (fun W => W.cell? ⟨s, 0, none⟩ = some (.pointer (some ⟨t, 0, none⟩)) ∧ W.cell? ⟨w.heap.size, 0, none⟩ = some (.string x1))
    (first | exact ⟨e0, k0⟩ | exact ⟨hf1.cell0 e0, hf1.cell0 k0⟩)
    (first | (go_at_call 112; refine (HG.out _ (hT.fr HA.out.tree hf0.drew (fun _ _ s => s))).mono ?_; rintro e w1 ⟨rfl, hf1⟩; unfold getTuple))
  have hfA : Fr No w w1 := hf0.drew.trans0 hf1
  have hkA := hf1.heap (b := w.heap.size) hk id
  have hf1s : w.heap.size + 1 ≤ w1.heap.size := by have := heap_lt hkA; omega
  clear hk hf0 k0 e0 hf1
  go_upto_if 18 with fail
  go_cut [4, 5] (fun s4 _ wx => s4 = .int .i64 (idS S x1) ∧ Hid (wx.heap[w.heap.size]? = some (.cells #[.string x1, .string x2, .int .i64 x3, .int .i64 x4, .int .i64 x5, .int .i64 x6] 57 (0, 0))) ∧
      ∃ hp' FT' FH', Hid (StoreR TA wx s t p ev hp' FT' FH' (madeS S x1)) ∧ Hid (Fr (storeF s p ev FT FH) w wx) ∧ Hid (∀ b, storeF s p ev FT' FH' b → storeF s p ev FT FH b ∨ w.heap.size < b))
  case first =>
    cases hg : (getT S.T x1).2
    · have c2 : w1.cell? ⟨s, 2, none⟩ = some (.int .i64 S.next) := hfA.cell0 (HA.out.obj.cell 2 rfl)
      have f2 : w1.frozen? ⟨s, 2, none⟩ = false := hfA.free0 (HA.out.obj.cell 2 rfl) (HA.out.obj.free 2)
      have hx1 := hok.pos
      have hx2 := hok.next
      have hl1 : s < w1.heap.size := by have := hfA.size; omega
      go_wp2_with fail
      have ho := (HA.out.fr hT hfA fun _ _ s => s).obj.set 2 (.int .i64 (S.next + 1))
      have hfs : Fr (fun b => b = s) w1 (w1.setCell ⟨s, 2, none⟩ (.int .i64 (S.next + 1))) := (Fr.refl _ w1).setAt 2 _
      have hA1 := (HA.out.fr hT hfA fun _ _ s => s).setObj hT hfs (S.next + 1) S.rev S.mark ho
      have hsz1 : (w1.setCell ⟨s, 2, none⟩ (.int .i64 (S.next + 1))).heap.size = w1.heap.size := by simp
      have hkB : (w1.setCell ⟨s, 2, none⟩ (.int .i64 (S.next + 1))).heap[w.heap.size]? = _ := hfs.heap hkA (by omega)
      have hfS : Fr (fun b => b = s) w (w1.setCell ⟨s, 2, none⟩ (.int .i64 (S.next + 1))) := hfA.mono (fun _ _ h => h.elim) |>.trans hfs fun _ _ h => h
      have hS1 := hfS.size
      generalize w1.setCell ⟨s, 2, none⟩ (.int .i64 (S.next + 1)) = W1 at *
      have hset := hT.set x1 S.next hA1.tree (hroom hg)
      have e0 := hA1.obj.cell 0 rfl
      have k0 : W1.cell? ⟨w.heap.size, 0, none⟩ = some (.string x1) := by simp [World.cell?, hkB]
      have nT : ¬ FT s := hA1.ds.1
      have nB : ¬ FT w.heap.size := fun h => by have := hT.lt HA.out.tree _ h; omega
      go_region_held (fun W => W.cell? ⟨s, 0, none⟩ = some (.pointer (some ⟨t, 0, none⟩)) ∧ W.cell? ⟨w.heap.size, 0, none⟩ = some (.string x1))
        (first | exact ⟨e0, k0⟩ | exact ⟨hf2.cell e0 nT, hf2.cell k0 nB⟩)
        (first | (go_at_call 123; refine (hT.set x1 S.next (hT.fr hA1.tree (Fr.refl No W1).drew (fun _ _ s => s)) (hroom hg)).mono ?_; rintro e w2 ⟨⟨v, rfl⟩, F2, ht2, hf2, hn2⟩))
      have hf2' : Fr FT W1 w2 := ((Fr.refl FT W1).drew).trans hf2 fun _ _ h => h
      have hA2 := hA1.setTree hT hf2' ht2 hn2
      have hkC := hf2'.heap hkB nB
      have hfB : Fr (storeF s p ev FT FH) w w2 := (hfS.mono fun b _ h => .inl h).trans hf2' fun b _ h => .inr (.inr (.inl h))
      have hn2' : ∀ b, storeF s p ev F2 FH b → storeF s p ev FT FH b ∨ w.heap.size < b := by
        rintro b (h | h | h | h | h)
        · exact .inl (.inl h)
        · exact .inl (.inr (.inl h))
        · rcases hn2 b h with h | h
          · exact .inl (.inr (.inr (.inl h)))
          · right; have := hf1s; simp at h; omega
        · exact .inl (.inr (.inr (.inr (.inl h))))
        · exact .inl (.inr (.inr (.inr (.inr h))))
      have hwfn : (Lit.int .i64 S.next).wf = true := wf64 (by omega) (by omega)
      have m1 := hA2.obj.cell 1 rfl
      have npp : ¬ s = p := fun e => hA2.map.apart hA2.obj e.symm
      have HS : ∀ W, Fr No w2 W → W.cell? ⟨s, 1, none⟩ = some (.map (some p)) ∧ ∀ v, (Instr.mapUpdate 119 (.map (some p)) (.int .i64 S.next) v).run Try.prog W = .ok () (mapUpW Try.prog 119 p S.next v W) := fun W hW =>
        ⟨hW.cell0 m1, fun v => ((hA2.map.fr hW id).up (P := Try.prog) (t := 119) (k := 3) Try.underlying119 Try.underlying3 hwfn v).1⟩
      have HS2 : ∀ W u, Fr No w2 W → (mapUpW Try.prog 119 p S.next u W).cell? ⟨s, 1, none⟩ = some (.map (some p)) ∧
          ∀ v, (Instr.mapUpdate 119 (.map (some p)) (.int .i64 S.next) v).run Try.prog (mapUpW Try.prog 119 p S.next u W) = .ok () (mapUpW Try.prog 119 p S.next v (mapUpW Try.prog 119 p S.next u W)) := fun W u hW => by
        obtain ⟨_, h2, h3, _⟩ := (hA2.map.fr hW id).up (P := Try.prog) (t := 119) (k := 3) Try.underlying119 Try.underlying3 hwfn u
        exact ⟨h3.cell (hW.cell0 m1) npp, fun v => (h2.up (P := Try.prog) (t := 119) (k := 3) Try.underlying119 Try.underlying3 hwfn v).1⟩
      have H1 := Lib.hid HS
      have H2 := Lib.hid HS2
      have HAA := Lib.hid hA2
      have HKC := Lib.hid hkC
      have HFB := Lib.hid hfB
      have HN2 := Lib.hid hn2'
      clear HS HS2 hA2 hkC hfB hn2' hf2' hf2 ht2 hn2 hset hA1 hkB hfS hfs ho hkA hfA HG hsz1 e0 k0 m1
      have hmm : ∀ w, (Instr.makeMap 144 none).run Try.prog w = .ok (.map (some w.heap.size)) (w.alloc (.map #[] 0)) := fun w => run_makeMap 144 w
      go_wp2_with fail
      go_region_held (fun W => W.cell? ⟨s, 1, none⟩ = some (.map (some p)) ∧ ∀ v, (Instr.mapUpdate 119 (.map (some p)) (.int .i64 S.next) v).run Try.prog W = .ok () (mapUpW Try.prog 119 p S.next v W))
        (first
          | ((refine H1.out _ ?_); (repeat (first | with_reducible exact Fr.refl _ _ | with_reducible refine Fr.alloc ?_ _ | with_reducible refine Fr.drew ?_ | (refine Fr.trans0 ?_ (by assumption)))); done)
          | ((refine H2.out _ _ ?_); (repeat (first | with_reducible exact Fr.refl _ _ | with_reducible refine Fr.alloc ?_ _ | with_reducible refine Fr.drew ?_ | (refine Fr.trans0 ?_ (by assumption)))); done))
        (first | (go_at_call 124; refine (GensNew_calls _).mono ?_; rintro e w3 ⟨g, rfl, FK, hk3, hf3, hn3⟩))
      · have hf3' : Fr No w2 w3 := (Fr.refl No w2).drew.trans0 hf3
        have hsz3 := hf3'.size
        have hks := hk3.lt
        have hn3' : ∀ b, FK b → w2.heap.size ≤ b := hn3
        have hf4 : Fr No w2 ((w3.alloc (Obj.map #[] 0)).alloc (Obj.cells #[Value.pointer (some ⟨g, 0, none⟩), Value.map (some w3.heap.size)] 146)) := (hf3'.alloc _).alloc _
        have hh : HistAt ((w3.alloc (Obj.map #[] 0)).alloc (Obj.cells #[Value.pointer (some ⟨g, 0, none⟩), Value.map (some w3.heap.size)] 146)) (w3.heap.size + 1) newH (fun b => b = w3.heap.size + 1 ∨ b = w3.heap.size ∨ FK b) :=
          newHist_at ⟨146, alloc_at _ _ _ (by simp)⟩ (hk3.fr (((Fr.refl No w3).alloc _).alloc _) fun _ _ s => s) ((MapAt.made w3).alloc _) (fun h => by have := hks _ h; omega) (fun h => by have := hks _ h; omega)
        obtain ⟨hM, hf5⟩ := made_mid hT HAA.out S.next (by
          cases hc : S.past S.next with
          | none => rfl
          | some H => have := hok.ids _ _ hc; omega) hwfn hf4 hh (fun b hb => by
            rcases hb with rfl | rfl | hb
            · omega
            · omega
            · exact hn3' b hb)
        have HM := Lib.hid hM
        have H5 := Lib.hid hf5
        clear hM hf5 hh
        go_wp2_with fail
        go_meet
        case rel =>
          have hlp := HAA.out.map.lt
          refine ⟨by unfold idS; rw [hg]; rfl, Lib.hid (H5.out.heap (hf4.heap HKC.out id) ?_), _, _, _, Lib.hid (by unfold madeS; rw [hg]; exact HM.out), Lib.hid ?_, Lib.hid ?_⟩
          · intro e
            have := HA.out.map.lt
            have e' : w.heap.size = p := e
            omega
          · exact (HFB.out.trans0 hf4).trans H5.out fun b _ e => .inr (.inl e)
          · have hw2 := HFB.out.size
            have hkc := heap_lt HKC.out
            rintro b (h | h | h | h | ⟨i, h⟩)
            · exact HN2.out b (.inl h)
            · exact HN2.out b (.inr (.inl h))
            · exact HN2.out b (.inr (.inr (.inl h)))
            · exact HN2.out b (.inr (.inr (.inr (.inl h))))
            · by_cases hi : i = S.next
              · rw [if_pos hi] at h
                right
                rcases h with rfl | rfl | h
                · omega
                · omega
                · have := hn3' b h; omega
              · rw [if_neg hi] at h
                exact HN2.out b (.inr (.inr (.inr (.inr ⟨i, h⟩))))
      · have hf3' : Fr No w2 w3 := ((Fr.refl No w2).alloc _).drew.trans0 hf3
        have hsz3 := hf3'.size
        have hks := hk3.lt
        have hn3' : ∀ b, FK b → w2.heap.size < b := fun b hb => by have := hn3 b hb; simp at this; omega
        have hsz3' : w2.heap.size + 1 ≤ w3.heap.size := by have := hf3.size; simpa using this
        have hmB : MapAt w3 w2.heap.size fun _ => none := (MapAt.made w2).fr (S := No) ((Fr.refl No (w2.alloc (Obj.map #[] 0))).drew.trans0 hf3) id
        have hf4 : Fr No w2 (w3.alloc (Obj.cells #[Value.pointer (some ⟨g, 0, none⟩), Value.map (some w2.heap.size)] 146)) := hf3'.alloc _
        have hh : HistAt (w3.alloc (Obj.cells #[Value.pointer (some ⟨g, 0, none⟩), Value.map (some w2.heap.size)] 146)) w3.heap.size newH (fun b => b = w3.heap.size ∨ b = w2.heap.size ∨ FK b) :=
          newHist_at ⟨146, alloc_at _ _ _ rfl⟩ (hk3.fr ((Fr.refl No w3).alloc _) fun _ _ s => s) (hmB.alloc _) (fun h => by have := hks _ h; omega) (fun h => by have := hn3' _ h; omega)
        obtain ⟨hM, hf5⟩ := made_mid hT HAA.out S.next (by
          cases hc : S.past S.next with
          | none => rfl
          | some H => have := hok.ids _ _ hc; omega) hwfn hf4 hh (fun b hb => by
            rcases hb with rfl | rfl | hb
            · omega
            · omega
            · exact Nat.le_of_lt (hn3' b hb))
        have HM := Lib.hid hM
        have H5 := Lib.hid hf5
        clear hM hf5 hh
        go_wp2_with fail
        go_meet
        case rel =>
          have hlp := HAA.out.map.lt
          refine ⟨by unfold idS; rw [hg]; rfl, Lib.hid (H5.out.heap (hf4.heap HKC.out id) ?_), _, _, _, Lib.hid (by unfold madeS; rw [hg]; exact HM.out), Lib.hid ?_, Lib.hid ?_⟩
          · intro e
            have := HA.out.map.lt
            have e' : w.heap.size = p := e
            omega
          · exact (HFB.out.trans0 hf4).trans H5.out fun b _ e => .inr (.inl e)
          · have hw2 := HFB.out.size
            have hkc := heap_lt HKC.out
            rintro b (h | h | h | h | ⟨i, h⟩)
            · exact HN2.out b (.inl h)
            · exact HN2.out b (.inr (.inl h))
            · exact HN2.out b (.inr (.inr (.inl h)))
            · exact HN2.out b (.inr (.inr (.inr (.inl h))))
            · by_cases hi : i = S.next
              · rw [if_pos hi] at h
                right
                rcases h with rfl | rfl | h
                · omega
                · omega
                · have := hn3' b h; omega
              · rw [if_neg hi] at h
                exact HN2.out b (.inr (.inr (.inr (.inr ⟨i, h⟩))))
    · go_wp2_with fail
      go_meet
      case rel => exact ⟨by unfold idS; rw [hg]; rfl, Lib.hid hkA, hp, FT, FH, Lib.hid (by unfold madeS; rw [hg]; exact HA.out.fr hT hfA fun _ _ s => s), Lib.hid (hfA.mono fun _ _ s => s.elim), Lib.hid fun b h => .inl h⟩
  case rest =>
    obtain ⟨rfl, HK, hp', FT', FH', HM, HF, HN⟩ := hcut
    have hx1 := hok.pos
    have hx2 := hok.next
    obtain ⟨H1, hH1, hok1, hl1', hidr⟩ : ∃ H1, (madeS S x1).past (idS S x1) = some H1 ∧ HistOk n H1 ∧ H1.last < x4 ∧ 0 ≤ idS S x1 ∧ idS S x1 ≤ S.next := by
      unfold madeS idS
      cases hg : (getT S.T x1).2
      · refine ⟨newH, by simp, ⟨by simp [newH], by simp [newH]⟩, by unfold newH; dsimp only; omega, by simp; omega⟩
      · obtain ⟨H, hH⟩ : ∃ H, S.past (getT S.T x1).1 = some H := by
          revert hg
          unfold getT
          cases hf : S.T.find? (fun q => keq q.1 x1) with
          | none => intro h; cases h
          | some q => intro _; exact hok.id q (List.mem_of_find?_eq_some hf)
        have := hok.ids _ _ hH
        exact ⟨H, by simpa using hH, (hok.hist _ _ hH).1, hlast H hH hg, by simp; omega⟩
    have hwf : (Lit.int .i64 (idS S x1)).wf = true := wf64 (by omega) (by omega)
    have hput : putS S ⟨x1, x2, x3, x4, x5, x6⟩ = { madeS S x1 with past := fun i => if i = idS S x1 then some (putH H1 ⟨x1, x2, x3, x4, x5, x6⟩) else (madeS S x1).past i } := by unfold putS; dsimp only; rw [hH1]; rfl
    have HPUT := Lib.hid hput
    clear hput
    obtain ⟨h, hh, g, m, FK, b, hFH⟩ := HM.out.hist _ _ hH1
    have hpl : ((hp' (idS S x1)).map fun h => Value.pointer (some ⟨h, 0, none⟩)).getD (.pointer none) = .pointer (some ⟨h, 0, none⟩) := by rw [hh]; rfl
    have c1s := HM.out.obj.cell 1 rfl
    have h0 := b.obj.cell 0 rfl
    have h1 := b.obj.cell 1 rfl
    have k3 : wc.cell? ⟨w.heap.size, 3, none⟩ = some (.int .i64 x4) := by simp [World.cell?, HK.out]
    have ls := HM.out.obj.lt
    have lh := b.obj.lt
    have lk := heap_lt HK.out
    have hnbox : ¬ FH' (idS S x1) w.heap.size := fun e => by
      rcases HN.out _ (.inr (.inr (.inr (.inr ⟨_, e⟩)))) with e | e
      · have := HA.out.lt hT _ e; omega
      · omega
    have nBK : ¬ FK w.heap.size := fun e => hnbox ((hFH _).2 (.inr (.inr e)))
    have nBm : w.heap.size ≠ m := fun e => hnbox ((hFH _).2 (.inr (.inl e)))
    have HB := Lib.hid b
    have HFH := Lib.hid hFH
    have Hpl := Lib.hid hpl
    have HOK1 := Lib.hid hok1
    clear b hFH hpl hok1 hnbox
    go_wp2_with (at_lookup; refine wpList_look rfl _ _ 119 rfl 3 142 Try.underlying119 Try.underlying3 p _ rfl HM.out.map (idS S x1) rfl hwf _ (zero142 _) _ Hpl.out ?_)
    go_region_held (fun W => W.cell? ⟨h, 0, none⟩ = some (.pointer (some ⟨g, 0, none⟩)) ∧ W.cell? ⟨w.heap.size, 3, none⟩ = some (.int .i64 x4))
      (first | exact ⟨h0, k3⟩ | exact ⟨hf4.cell h0 HB.out.d1, hf4.cell k3 nBK⟩)
      (first | (go_at_call 125; refine (Put_calls _ g H1.gens H1.last x4 FK (HB.out.key.fr (Fr.refl No wc).drew (fun _ _ s => s)) (HOK1.out.fits hn) hm1 hm2 hl1').mono ?_; rintro e w4 ⟨rfl, FK', hk4, hf4, hn4⟩))
    go_wp2_with fail
    have hf4' : Fr FK wc w4 := ((Fr.refl FK wc).drew).trans hf4 fun _ _ h => h
    have h1' := hf4'.cell h1 HB.out.d1
    have hk6 := hf4'.heap HK.out nBK
    have k0 : w4.cell? ⟨w.heap.size, 0, none⟩ = some (.string x1) := by simp [World.cell?, hk6]
    have k1 : w4.cell? ⟨w.heap.size, 1, none⟩ = some (.string x2) := by simp [World.cell?, hk6]
    have k2 : w4.cell? ⟨w.heap.size, 2, none⟩ = some (.int .i64 x3) := by simp [World.cell?, hk6]
    have k3' : w4.cell? ⟨w.heap.size, 3, none⟩ = some (.int .i64 x4) := by simp [World.cell?, hk6]
    have k4 : w4.cell? ⟨w.heap.size, 4, none⟩ = some (.int .i64 x5) := by simp [World.cell?, hk6]
    have k5 : w4.cell? ⟨w.heap.size, 5, none⟩ = some (.int .i64 x6) := by simp [World.cell?, hk6]
    have lh4 : h < w4.heap.size := by have := hf4'.size; omega
    have lk4 : w.heap.size < w4.heap.size := heap_lt hk6
    have hmw : MapAt w4.drew m fun r => (H1.kvs r).map kvV := HB.out.map.fr hf4'.drew HB.out.d2
    have hwx : (Lit.int .i64 x4).wf = true := wf64 (by omega) (by unfold top at hm2; omega)
    have HF4 := Lib.hid hf4'
    have HK4 := Lib.hid hk4
    have HN4 := Lib.hid hn4
    clear hf4 hf4' hk4 hn4 hk6
    refine wp_region_still_tail 7 (by kernel_rfl) (by kernel_rfl) ?_
    simp only [List.take_succ_cons, List.take_zero, List.drop_succ_cons, List.drop_zero]
    change wpStill _ _ w4.drew _ _ _
    repeat (refine wpStill_step (fun K hK => ?_); go_simp; (try go_bits); refine hK _ ?_; clear hK K)
    refine wpStill_nil ?_
    change wpList _ _ _ _ _ w4.drew
    refine wpList_store rfl _ _ _ 144 rfl 3 57 Try.underlying144 Try.underlying3 m _ rfl hmw x4 rfl hwx (kvV ⟨x1, x2, x3, x4, x5, x6⟩) rfl ?_
    intro w5 hm5 hf5 hsz5
    go_wp2
    refine bodyPost_end (results_none rfl _ _ _) rfl ?_
    have hlo := HB.out.map.lt
    have hfc : Fr (FH' (idS S x1)) wc w5 := (HF4.out.drew.mono fun b _ e => (HFH.out b).2 (.inr (.inr e))).trans (hf5.mono (S := fun x => x = m) (T := FH' (idS S x1)) fun b _ e => (HFH.out b).2 (.inr (.inl e))) fun _ _ e => e
    have hhist : HistAt w5 h (putH H1 ⟨x1, x2, x3, x4, x5, x6⟩) (fun b => b = h ∨ b = m ∨ FK' b) := by
      refine ⟨g, m, FK', ⟨?_, ?_, ?_, ?_, ?_⟩, fun _ => Iff.rfl⟩
      · refine (HB.out.obj.fr HF4.out.drew HB.out.d1).fr hf5 fun e => ?_
        exact HB.out.map.apart HB.out.obj e.symm
      · refine HK4.out.fr ((Fr.refl (fun x => x = m) w4).drew.trans hf5 fun _ _ e => e) fun b hb e => ?_
        have e' : b = m := e
        subst e'
        rcases HN4.out _ hb with h5 | h5
        · exact HB.out.d2 h5
        · have h6 : wc.heap.size ≤ b := h5
          omega
      · refine cast (congrArg (MapAt w5 m) ?_) hm5
        funext r
        unfold putH
        dsimp only
        by_cases hr : r = x4 <;> simp [hr]
      · intro hb
        rcases HN4.out _ hb with h5 | h5
        · exact HB.out.d1 h5
        · have h6 : wc.heap.size ≤ h := h5
          omega
      · intro hb
        rcases HN4.out _ hb with h5 | h5
        · exact HB.out.d2 h5
        · have h6 : wc.heap.size ≤ m := h5
          omega
    have hnew : ∀ b, (b = h ∨ b = m ∨ FK' b) → FH' (idS S x1) b ∨ wc.heap.size ≤ b := by
      rintro b (e | e | e)
      · exact .inl ((HFH.out b).2 (.inl e))
      · exact .inl ((HFH.out b).2 (.inr (.inl e)))
      · rcases HN4.out b e with h5 | h5
        · exact .inl ((HFH.out b).2 (.inr (.inr h5)))
        · exact .inr h5
    have hfin := HM.out.setHist hT hh hfc hhist hnew
    refine ⟨⟨_, rfl⟩, _, ⟨t, p, ev, hp', FT', _, by rw [HPUT.out]; exact hfin, fun _ => Iff.rfl⟩, ?_, ?_⟩
    · have hwc := HF.out.size
      refine (HF.out.trans hfc fun b hb e => ?_).mono fun b _ e => (HFF.out b).2 e
      rcases HN.out b (.inr (.inr (.inr (.inr ⟨_, e⟩)))) with h5 | h5
      · exact h5
      · omega
    · have hwc := HF.out.size
      have old : ∀ b, storeF s p ev FT' FH' b → F b ∨ w.heap.size ≤ b := fun b hb => by
        rcases HN.out b hb with h5 | h5
        · exact .inl ((HFF.out b).2 h5)
        · exact .inr (by omega)
      rintro b (e | e | e | e | ⟨i, e⟩)
      · exact old b (.inl e)
      · exact old b (.inr (.inl e))
      · exact old b (.inr (.inr (.inl e)))
      · exact old b (.inr (.inr (.inr (.inl e))))
      · by_cases hi : i = idS S x1
        · rw [if_pos hi] at e
          rcases hnew b e with h5 | h5
          · exact old b (.inr (.inr (.inr (.inr ⟨_, h5⟩))))
          · exact .inr (by omega)
        · rw [if_neg hi] at e
          exact old b (.inr (.inr (.inr (.inr ⟨i, e⟩))))
end Go.Proofs.Ythljnnjpmdgkoaa

namespace Go.Proofs.Ythljnnjpmdgkoaa
open Go Go.Proofs Go.RowKit
set_option maxRecDepth 100000

/-- Does a text begin with the three bytes of the replacement sign? -/
def sign3 (s : ByteArray) : Bool := decide (3 ≤ s.size) && ((s.extract 0 3).toList == [239, 191, 189])

theorem hasPrefix_calls (w : World) (s : ByteArray) : Calls Try.prog 151 #[.string s, .string ⟨#[239, 191, 189]⟩] w fun e w' => e = .returned (.bool (sign3 s)) ∧ w = w' := by
  by_cases h : 3 ≤ s.size
  · have hz : (3 : Int) ≤ (s.size : Int) := by omega
    have hd : sign3 s = ((s.extract 0 3).toList == [239, 191, 189]) := by unfold sign3; simp [h]
    rw [hd]
    go_enter Try.func151, Try.ntmps151
    go_wp2
    go_ret
    exact ⟨rfl, rfl⟩
  · have hz : ¬ (3 : Int) ≤ (s.size : Int) := by omega
    have hd : sign3 s = false := by unfold sign3; simp [h]
    rw [hd]
    go_enter Try.func151, Try.ntmps151
    go_wp2
    go_ret
    exact ⟨rfl, rfl⟩

theorem hasPrefix'_calls (w : World) (s : ByteArray) : Calls Try.prog 140 #[.string s, .string ⟨#[239, 191, 189]⟩] w fun e w' => e = .returned (.bool (sign3 s)) ∧ w = w' := by
  go_enter Try.func140, Try.ntmps140
  go_wp2_with (go_at_call 151; refine (hasPrefix_calls _ _).mono ?_; rintro e w' ⟨rfl, rfl⟩)
  go_ret
  exact ⟨rfl, rfl⟩

/-- The place i of a text begins with no rune. -/
def wrongAt (s : ByteArray) (i : Nat) : Bool := (Utf8.decode s i).1 == 65533 && !sign3 (s.extract i s.size)

theorem wrong_calls (w : World) (s : ByteArray) (i r : Nat) (hi : i ≤ s.size) : Calls Try.prog 121 #[.string s, .int .i64 i, .int .i32 r] w fun e w' => e = .returned (.bool (r == 65533 && !sign3 (s.extract i s.size))) ∧ w = w' := by
  have hiz : (i : Int) ≤ (s.size : Int) := by omega
  have h1 : ((r : Int) == 65533) = (r == 65533) := by rw [Bool.eq_iff_iff, beq_iff_eq, beq_iff_eq]; omega
  by_cases h : r = 65533
  · subst h
    go_enter Try.func121, Try.ntmps121
    go_wp2_with (go_at_call 140; refine (hasPrefix'_calls _ _).mono ?_; rintro e w' ⟨rfl, rfl⟩)
    go_ret
    exact ⟨by simp, rfl⟩
  · have h2 : (r == 65533) = false := by simpa using h
    rw [h2] at h1
    go_enter Try.func121, Try.ntmps121
    go_wp2
    go_ret
    exact ⟨by rw [h2]; rfl, rfl⟩

/-- How many runes there are from a place on, and n; -1: one is wrong. -/
def runesK (s : ByteArray) : Nat → Nat → Int → Int
  | 0, _, n => n
  | g + 1, i, n => if i < s.size then (if wrongAt s i then -1 else runesK s g (i + (Utf8.decode s i).2) (n + 1)) else n
def runes (s : ByteArray) : Int := runesK s s.size 0 0

theorem decode_in (s : ByteArray) (i : Nat) (h : i < s.size) : 1 ≤ (Utf8.decode s i).2 ∧ i + (Utf8.decode s i).2 ≤ s.size := by
  refine ⟨Go.Lib.decode_width_pos s i h, ?_⟩
  unfold Utf8.decode
  simp only
  repeat' split
  all_goals simp_all
  all_goals omega

theorem runesK_more (s : ByteArray) : ∀ (g i : Nat) (n : Int) (g' : Nat), s.size ≤ i + g → g ≤ g' → runesK s g' i n = runesK s g i n
  | 0, i, n, g', h, _ => by
    cases g' with
    | zero => rfl
    | succ g' => unfold runesK; rw [if_neg (by omega)]
  | g + 1, i, n, g', h, hg => by
    cases g' with
    | zero => omega
    | succ g' =>
      unfold runesK
      by_cases hi : i < s.size
      · rw [if_pos hi, if_pos hi]
        cases wrongAt s i
        · simp only [Bool.false_eq_true, if_false]
          have := (decode_in s i hi).1
          exact runesK_more s g _ _ g' (by omega) (by omega)
        · rfl
      · rw [if_neg hi, if_neg hi]

theorem indexByte0_calls (w : World) (s : ByteArray) : Calls Try.prog 122 #[.string s, .int .u8 0] w fun e w' => e = .returned (.int .i64 (firstIdx s 0)) ∧ w = w' := by
  have hx : ∀ W, (callFunc 141 #[.string s, .int .u8 0]).run Try.prog W = .ok (.value (.int .i64 (firstIdx s 0))) W := by
    intro W
    rw [run_callFunc_extern (e := Extern.BytealgIndexByte.indexByte) Try.func141 (by kernel_rfl) (by kernel_rfl) (by kernel_rfl) (by kernel_rfl), run_indexByte_string]
    rfl
  go_enter Try.func122, Try.ntmps122
  go_wp2
  go_ret
  exact ⟨rfl, rfl⟩
theorem indexByte_calls (w : World) (s : ByteArray) : Calls Try.prog 93 #[.string s, .int .u8 0] w fun e w' => e = .returned (.int .i64 (firstIdx s 0)) ∧ w = w' := by
  go_enter Try.func93, Try.ntmps93
  go_wp2_with (go_at_call 122; refine (indexByte0_calls _ _).mono ?_; rintro e w' ⟨rfl, rfl⟩)
  go_ret
  exact ⟨rfl, rfl⟩

theorem run_next_at {P : Program} (w : World) (b : Nat) (s : ByteArray) (pos : Nat) (ty : TypeId) (hb : w.heap[b]? = some (.stringIter s pos)) (h : pos < s.size) :
    (Instr.next (.pointer (some ⟨b, 0, none⟩)) true ty).run P w =
      .ok (.tuple #[.bool true, .int .i64 pos, .int .i32 (Utf8.decode s pos).1]) (ChangeMaps.setBlock w b (.stringIter s (pos + (Utf8.decode s pos).2))) := by
  simp [Instr.next, getObj, setObj, Sem.run, Result.andThen, hb, h, goInt, ChangeMaps.setBlock]
theorem run_next_over {P : Program} (w : World) (b : Nat) (s : ByteArray) (pos : Nat) (ty : TypeId) (hb : w.heap[b]? = some (.stringIter s pos)) (h : ¬ pos < s.size) :
    (Instr.next (.pointer (some ⟨b, 0, none⟩)) true ty).run P w = .ok (.tuple #[.bool false]) w := by
  simp [Instr.next, getObj, Sem.run, hb, h]

theorem setB_other (w : World) (b k : Nat) (o : Obj) (h : k ≠ b) : (ChangeMaps.setBlock w b o).heap[k]? = w.heap[k]? := by
  unfold ChangeMaps.setBlock
  exact Array.getElem?_setIfInBounds_ne (fun e => h e.symm)
theorem setB_at (w : World) (b : Nat) (o : Obj) (h : b < w.heap.size) : (ChangeMaps.setBlock w b o).heap[b]? = some o := by
  unfold ChangeMaps.setBlock
  simp [h]

theorem Runes_calls (w : World) (s : ByteArray) (hs : s.size ≤ 1099511627776) : Calls Try.prog 92 #[.string s] w fun e w' => e = .returned (.int .i64 (runes s)) ∧ Fr No w w' := by
  go_enter Try.func92, Try.ntmps92
  go_wp2
  go_loopg [3] s.size (fun g s3 wr => ∃ (pos : Nat) (n : Int), s3 = .int .i64 n ∧ pos + g = s.size ∧ 0 ≤ n ∧ n ≤ pos ∧ Hid (runesK s g pos n = runes s) ∧ Hid (wr.heap[w.heap.size]? = some (.stringIter s pos)) ∧ Hid (Fr No w wr))
  case atStart => exact ⟨0, 0, rfl, by simp, by omega, by omega, Lib.hid rfl, Lib.hid (World.iter_heap _ _ _), Lib.hid ((Fr.refl No w).alloc _)⟩
  case round =>
    obtain ⟨pos, n, rfl, hg, hn0, hn1, HK, HB, HF⟩ := hrel
    by_cases hp : pos < s.size
    · have hnx := fun ty => run_next_at (P := Try.prog) wr w.heap.size s pos ty HB.out hp
      have hd := decode_in s pos hp
      have hfw : Fr No w (ChangeMaps.setBlock wr w.heap.size (.stringIter s (pos + (Utf8.decode s pos).2))) :=
        ⟨HF.out.os, HF.out.tape, HF.out.output, by have := HF.out.size; simpa [ChangeMaps.setBlock] using this, fun k hk hS => (setB_other wr _ k _ (by omega)).trans (HF.out.block k hk hS)⟩
      have hbw := setB_at wr w.heap.size (.stringIter s (pos + (Utf8.decode s pos).2)) (heap_lt HB.out)
      have hstep : runesK s gk pos n = if wrongAt s pos then -1 else runesK s (s.size - (pos + (Utf8.decode s pos).2)) (pos + (Utf8.decode s pos).2) (n + 1) := by
        obtain ⟨k, rfl⟩ : ∃ k, gk = k + 1 := ⟨gk - 1, by omega⟩
        conv => lhs; unfold runesK
        rw [if_pos hp]
        congr 1
        exact runesK_more s _ _ _ _ (by omega) (by omega)
      have HFW := Lib.hid hfw
      have HBW := Lib.hid hbw
      have hwr := fun W => wrong_calls W s pos (Utf8.decode s pos).1 (by omega)
      have hwa : ((Utf8.decode s pos).1 == 65533 && !sign3 (s.extract pos s.size)) = wrongAt s pos := rfl
      simp only [hwa] at hwr
      generalize ChangeMaps.setBlock wr w.heap.size (.stringIter s (pos + (Utf8.decode s pos).2)) = W1 at *
      generalize Utf8.decode s pos = d at *
      clear hfw hbw hwa
      cases hw : wrongAt s pos
      · rw [hw] at hstep hwr
        have HS := Lib.hid hstep
        clear hstep hw
        go_wp2_with (go_at_call 121; refine (hwr _).mono ?_; rintro e w' ⟨rfl, rfl⟩)
        go_roundg (s.size - (pos + d.2))
        case rel => exact ⟨pos + d.2, n + 1, rfl, by omega, by omega, by omega, Lib.hid (by rw [← HK.out, HS.out]; simp), HBW, HFW⟩
        case measure => omega
      · rw [hw] at hstep hwr
        have HS := Lib.hid hstep
        clear hstep hw
        go_wp2_with (go_at_call 121; refine (hwr _).mono ?_; rintro e w' ⟨rfl, rfl⟩)
        go_ret
        exact ⟨by rw [← HK.out, HS.out]; rfl, HFW.out⟩
    · have hnx := fun ty => run_next_over (P := Try.prog) wr w.heap.size s pos ty HB.out hp
      have hend : runesK s gk pos n = n := by
        obtain rfl : gk = 0 := by omega
        rfl
      have HE := Lib.hid hend
      clear hend
      go_wp2
      go_ret
      exact ⟨by rw [← HK.out, HE.out]; rfl, HF.out⟩

/-- What is wrong with a key. -/
def keyE (s : ByteArray) : Int := if runes s < 1 ∨ 0 ≤ firstIdx s 0 then 30 else if 64 < s.size then 31 else 0

theorem Key_calls (w : World) (s : ByteArray) (hs : s.size ≤ 1099511627776) : Calls Try.prog 58 #[.string s] w fun e w' => e = .returned (.int .i64 (keyE s)) ∧ Fr No w w' := by
  have hr := fun W => Runes_calls W s hs
  have hx := fun W => indexByte_calls W s
  have hb : 0 ≤ runes s ∨ runes s < 0 := by omega
  unfold keyE
  generalize runes s = r at *
  generalize firstIdx s 0 = x at *
  by_cases h1 : r < 1
  · have h1' : ¬ 1 ≤ r := by omega
    rw [if_pos (.inl h1)]
    go_enter Try.func58, Try.ntmps58
    go_wp2_with (first | (go_at_call 92; refine (hr _).mono ?_; rintro e w1 ⟨rfl, hf⟩) | (go_at_call 93; refine (hx _).mono ?_; rintro e w' ⟨rfl, rfl⟩))
    go_ret
    exact ⟨rfl, hf⟩
  · by_cases h2 : 0 ≤ x
    · rw [if_pos (.inr h2)]
      go_enter Try.func58, Try.ntmps58
      go_wp2_with (first | (go_at_call 92; refine (hr _).mono ?_; rintro e w1 ⟨rfl, hf⟩) | (go_at_call 93; refine (hx _).mono ?_; rintro e w' ⟨rfl, rfl⟩))
      go_ret
      exact ⟨rfl, hf⟩
    · rw [if_neg (by omega)]
      by_cases h3 : 64 < s.size
      · have h3' : (64 : Int) < (s.size : Int) := by omega
        rw [if_pos h3]
        go_enter Try.func58, Try.ntmps58
        go_wp2_with (first | (go_at_call 92; refine (hr _).mono ?_; rintro e w1 ⟨rfl, hf⟩) | (go_at_call 93; refine (hx _).mono ?_; rintro e w' ⟨rfl, rfl⟩))
        go_ret
        exact ⟨rfl, hf⟩
      · have h3' : ¬ (64 : Int) < (s.size : Int) := by omega
        rw [if_neg h3]
        go_enter Try.func58, Try.ntmps58
        go_wp2_with (first | (go_at_call 92; refine (hr _).mono ?_; rintro e w1 ⟨rfl, hf⟩) | (go_at_call 93; refine (hx _).mono ?_; rintro e w' ⟨rfl, rfl⟩))
        go_ret
        exact ⟨rfl, hf⟩
end Go.Proofs.Ythljnnjpmdgkoaa

namespace Go.Proofs.Ythljnnjpmdgkoaa
open Go Go.Proofs Go.RowKit
set_option maxRecDepth 100000

/-- A range that is asked for. -/
structure Rg where
  key : ByteArray
  end_ : ByteArray
  rev : Int
  limit : Int
  keys : Bool
  count : Bool
  desc : Bool
def rgV (g : Rg) : Value := .agg #[.string g.key, .string g.end_, .int .i64 g.rev, .int .i64 g.limit, .bool g.keys, .bool g.count, .bool g.desc]
def rgC (g : Rg) : List Value := [.string g.key, .string g.end_, .int .i64 g.rev, .int .i64 g.limit, .bool g.keys, .bool g.count, .bool g.desc]
/-- An op. -/
structure Opr where
  kind : Int
  rg : Rg
  value : ByteArray
  lease : Int
def opV (o : Opr) : Value := .agg #[.int .i64 o.kind, .string o.rg.key, .string o.rg.end_, .int .i64 o.rg.rev, .int .i64 o.rg.limit, .bool o.rg.keys, .bool o.rg.count, .bool o.rg.desc, .string o.value, .int .i64 o.lease]
def opC (o : Opr) : List Value := .int .i64 o.kind :: (rgC o.rg ++ [.string o.value, .int .i64 o.lease])
theorem opC_length (o : Opr) : (opC o).length = 10 := rfl

/-- What is wrong with a range. -/
def askE (g : Rg) : Int := if keyE g.key ≠ 0 then keyE g.key else if 64 < g.end_.size then 31 else if g.rev < 0 ∨ g.limit < 0 then 1 else 0

theorem Asks_calls (w : World) (g : Rg) (hs : g.key.size ≤ 1099511627776) : Calls Try.prog 22 #[rgV g] w fun e w' => e = .returned (.int .i64 (askE g)) ∧ Fr No w w' := by
  have hk := fun W => Key_calls W g.key hs
  obtain ⟨g1, g2, g3, g4, g5, g6, g7⟩ := g
  unfold askE rgV
  dsimp only at *
  generalize keyE g1 = k at *
  clear hs
  by_cases h1 : k ≠ 0
  · have h1' : (k == 0) = false := by simpa using h1
    rw [if_pos h1]
    go_enter Try.func22, Try.ntmps22
    go_wp2_with (go_at_call 58; refine (hk _).mono ?_; rintro e w1 ⟨rfl, hf⟩)
    go_ret
    exact ⟨rfl, ((Fr.refl No w).alloc _).trans0 hf⟩
  · have h1' : (k == 0) = true := by simpa using h1
    rw [if_neg h1]
    by_cases h2 : 64 < g2.size
    · have h2' : (64 : Int) < (g2.size : Int) := by omega
      rw [if_pos h2]
      go_enter Try.func22, Try.ntmps22
      go_wp2_with (go_at_call 58; refine (hk _).mono ?_; rintro e w1 ⟨rfl, hf⟩
                   have hb : w1.heap[w.heap.size]? = some (.cells #[.string g1, .string g2, .int .i64 g3, .int .i64 g4, .bool g5, .bool g6, .bool g7] 38 (0, 0)) := hf.heap (alloc_at _ _ _ rfl) id
                   have x1 : w1.cell? ⟨w.heap.size, 1, none⟩ = some (.string g2) := by simp [World.cell?, hb])
      go_ret
      exact ⟨rfl, ((Fr.refl No w).alloc _).trans0 hf⟩
    · have h2' : ¬ (64 : Int) < (g2.size : Int) := by omega
      rw [if_neg h2]
      by_cases h3 : g3 < 0
      · have h3' : ¬ 0 ≤ g3 := by omega
        rw [if_pos (.inl h3)]
        go_enter Try.func22, Try.ntmps22
        go_wp2_with (go_at_call 58; refine (hk _).mono ?_; rintro e w1 ⟨rfl, hf⟩
                     have hb : w1.heap[w.heap.size]? = some (.cells #[.string g1, .string g2, .int .i64 g3, .int .i64 g4, .bool g5, .bool g6, .bool g7] 38 (0, 0)) := hf.heap (alloc_at _ _ _ rfl) id
                     have x1 : w1.cell? ⟨w.heap.size, 1, none⟩ = some (.string g2) := by simp [World.cell?, hb]
                     have x2 : w1.cell? ⟨w.heap.size, 2, none⟩ = some (.int .i64 g3) := by simp [World.cell?, hb])
        go_ret
        exact ⟨rfl, ((Fr.refl No w).alloc _).trans0 hf⟩
      · by_cases h4 : g4 < 0
        · have h4' : ¬ 0 ≤ g4 := by omega
          rw [if_pos (.inr h4)]
          go_enter Try.func22, Try.ntmps22
          go_wp2_with (go_at_call 58; refine (hk _).mono ?_; rintro e w1 ⟨rfl, hf⟩
                       have hb : w1.heap[w.heap.size]? = some (.cells #[.string g1, .string g2, .int .i64 g3, .int .i64 g4, .bool g5, .bool g6, .bool g7] 38 (0, 0)) := hf.heap (alloc_at _ _ _ rfl) id
                       have x1 : w1.cell? ⟨w.heap.size, 1, none⟩ = some (.string g2) := by simp [World.cell?, hb]
                       have x2 : w1.cell? ⟨w.heap.size, 2, none⟩ = some (.int .i64 g3) := by simp [World.cell?, hb]
                       have x3 : w1.cell? ⟨w.heap.size, 3, none⟩ = some (.int .i64 g4) := by simp [World.cell?, hb])
          go_ret
          exact ⟨rfl, ((Fr.refl No w).alloc _).trans0 hf⟩
        · rw [if_neg (by omega)]
          go_enter Try.func22, Try.ntmps22
          go_wp2_with (go_at_call 58; refine (hk _).mono ?_; rintro e w1 ⟨rfl, hf⟩
                       have hb : w1.heap[w.heap.size]? = some (.cells #[.string g1, .string g2, .int .i64 g3, .int .i64 g4, .bool g5, .bool g6, .bool g7] 38 (0, 0)) := hf.heap (alloc_at _ _ _ rfl) id
                       have x1 : w1.cell? ⟨w.heap.size, 1, none⟩ = some (.string g2) := by simp [World.cell?, hb]
                       have x2 : w1.cell? ⟨w.heap.size, 2, none⟩ = some (.int .i64 g3) := by simp [World.cell?, hb]
                       have x3 : w1.cell? ⟨w.heap.size, 3, none⟩ = some (.int .i64 g4) := by simp [World.cell?, hb])
          go_ret
          exact ⟨rfl, ((Fr.refl No w).alloc _).trans0 hf⟩

/-- What is wrong with an op alone. -/
def oneE (o : Opr) : Int :=
  if o.kind = 3 then askE o.rg else if o.kind = 2 then askE ⟨o.rg.key, o.rg.end_, 0, 0, false, false, false⟩
  else if o.kind = 1 then (if keyE o.rg.key ≠ 0 then keyE o.rg.key else if 1024 < o.value.size then 31 else if 0 ≤ o.lease then 0 else 1) else 1

theorem one_calls (w : World) (o : Opr) (hs : o.rg.key.size ≤ 1099511627776) : Calls Try.prog 52 #[opV o] w fun e w' => e = .returned (.int .i64 (oneE o)) ∧ Fr No w w' := by
  have hk := fun W => Key_calls W o.rg.key hs
  have ha := fun W => Asks_calls W o.rg hs
  have hb := fun W => Asks_calls W ⟨o.rg.key, o.rg.end_, 0, 0, false, false, false⟩ hs
  obtain ⟨o1, ⟨g1, g2, g3, g4, g5, g6, g7⟩, o2, o3⟩ := o
  unfold oneE opV
  unfold rgV at *
  dsimp only at *
  generalize keyE g1 = k at *
  generalize askE _ = a at *
  generalize askE _ = b at *
  have HK := Lib.hid hk
  have HA := Lib.hid ha
  have HB := Lib.hid hb
  clear hs hk ha hb
  by_cases h1 : o1 = 3
  · have h1' : (o1 == 3) = true := by simpa using h1
    rw [if_pos h1]
    go_enter Try.func52, Try.ntmps52
    go_wp2_with (go_at_call 22; refine (HA.out _).mono ?_; rintro e w1 ⟨rfl, hf⟩)
    go_ret
    exact ⟨rfl, ((Fr.refl No w).alloc _).trans0 hf⟩
  · have h1' : (o1 == 3) = false := by simpa using h1
    rw [if_neg h1]
    by_cases h2 : o1 = 2
    · have h2' : (o1 == 2) = true := by simpa using h2
      rw [if_pos h2]
      go_enter Try.func52, Try.ntmps52
      go_wp2_with (go_at_call 22; refine (HB.out _).mono ?_; rintro e w1 ⟨rfl, hf⟩)
      go_ret
      exact ⟨rfl, ((Fr.refl No w).alloc _).trans0 hf⟩
    · have h2' : (o1 == 2) = false := by simpa using h2
      rw [if_neg h2]
      by_cases h3 : o1 = 1
      · rw [if_pos h3]
        subst h3
        clear h1 h2 h1' h2'
        by_cases h4 : k ≠ 0
        · have h4' : (k == 0) = false := by simpa using h4
          rw [if_pos h4]
          go_enter Try.func52, Try.ntmps52
          go_wp2_with (go_at_call 58; refine (HK.out _).mono ?_; rintro e w1 ⟨rfl, hf⟩)
          go_ret
          exact ⟨rfl, ((Fr.refl No w).alloc _).trans0 hf⟩
        · have h4' : (k == 0) = true := by simpa using h4
          rw [if_neg h4]
          by_cases h5 : 1024 < o2.size
          · have h5' : (1024 : Int) < (o2.size : Int) := by omega
            rw [if_pos h5]
            go_enter Try.func52, Try.ntmps52
            go_wp2_with (go_at_call 58; refine (HK.out _).mono ?_; rintro e w1 ⟨rfl, hf⟩
                         have hb : w1.heap[w.heap.size]? = some (.cells #[.int .i64 1, .string g1, .string g2, .int .i64 g3, .int .i64 g4, .bool g5, .bool g6, .bool g7, .string o2, .int .i64 o3] 87 (0, 0)) := hf.heap (alloc_at _ _ _ rfl) id
                         have x8 : w1.cell? ⟨w.heap.size, 8, none⟩ = some (.string o2) := by simp [World.cell?, hb])
            go_ret
            exact ⟨rfl, ((Fr.refl No w).alloc _).trans0 hf⟩
          · have h5' : ¬ (1024 : Int) < (o2.size : Int) := by omega
            rw [if_neg h5]
            by_cases h6 : 0 ≤ o3
            · rw [if_pos h6]
              go_enter Try.func52, Try.ntmps52
              go_wp2_with (go_at_call 58; refine (HK.out _).mono ?_; rintro e w1 ⟨rfl, hf⟩
                           have hb : w1.heap[w.heap.size]? = some (.cells #[.int .i64 1, .string g1, .string g2, .int .i64 g3, .int .i64 g4, .bool g5, .bool g6, .bool g7, .string o2, .int .i64 o3] 87 (0, 0)) := hf.heap (alloc_at _ _ _ rfl) id
                           have x8 : w1.cell? ⟨w.heap.size, 8, none⟩ = some (.string o2) := by simp [World.cell?, hb]
                           have x9 : w1.cell? ⟨w.heap.size, 9, none⟩ = some (.int .i64 o3) := by simp [World.cell?, hb])
              go_ret
              exact ⟨rfl, ((Fr.refl No w).alloc _).trans0 hf⟩
            · rw [if_neg h6]
              go_enter Try.func52, Try.ntmps52
              go_wp2_with (go_at_call 58; refine (HK.out _).mono ?_; rintro e w1 ⟨rfl, hf⟩
                           have hb : w1.heap[w.heap.size]? = some (.cells #[.int .i64 1, .string g1, .string g2, .int .i64 g3, .int .i64 g4, .bool g5, .bool g6, .bool g7, .string o2, .int .i64 o3] 87 (0, 0)) := hf.heap (alloc_at _ _ _ rfl) id
                           have x8 : w1.cell? ⟨w.heap.size, 8, none⟩ = some (.string o2) := by simp [World.cell?, hb]
                           have x9 : w1.cell? ⟨w.heap.size, 9, none⟩ = some (.int .i64 o3) := by simp [World.cell?, hb])
              go_ret
              exact ⟨rfl, ((Fr.refl No w).alloc _).trans0 hf⟩
      · have h3' : (o1 == 1) = false := by simpa using h3
        rw [if_neg h3]
        go_enter Try.func52, Try.ntmps52
        go_wp2
        go_ret
        exact ⟨rfl, (Fr.refl No w).alloc _⟩

/-- Is a key one of a range? -/
def inB (key frm end_ : ByteArray) : Bool :=
  if end_.toList.isEmpty then key.toList == frm.toList else if end_.toList == [0] then !Op.bytesLess key.toList frm.toList else !Op.bytesLess key.toList frm.toList && Op.bytesLess key.toList end_.toList

theorem In_calls (w : World) (key frm end_ : ByteArray) : Calls Try.prog 54 #[.string key, .string frm, .string end_] w fun e w' => e = .returned (.bool (inB key frm end_)) ∧ w = w' := by
  unfold inB
  cases h1 : end_.toList.isEmpty
  · cases h2 : (end_.toList == [0])
    · cases h3 : Op.bytesLess key.toList frm.toList <;>
      · go_enter Try.func54, Try.ntmps54
        go_wp2
        go_ret
        exact ⟨by simp, rfl⟩
    · go_enter Try.func54, Try.ntmps54
      go_wp2
      go_ret
      exact ⟨by simp, rfl⟩
  · go_enter Try.func54, Try.ntmps54
    go_wp2
    go_ret
    exact ⟨by simp, rfl⟩
end Go.Proofs.Ythljnnjpmdgkoaa
