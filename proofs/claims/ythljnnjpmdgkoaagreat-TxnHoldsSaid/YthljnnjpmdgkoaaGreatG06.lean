/- Lemmas for the claim. Conditions stand in each. -/
import Derived.Test.YthljnnjpmdgkoaaGreatG05
import Derived.Test.YthljnnjpmdgkoaaGreatG01
import Derived.Test.YthljnnjpmdgkoaaGreatG00
import Derived.Deep.DeepCutAuto
import Derived.Deep.RegionLaw
namespace Go.Proofs.YthljnnjpmdgkoaaGreat
open Go Go.Proofs Go.RowKit
set_option maxRecDepth 100000
def putH (H : Hist) (x : Kv) : Hist := { gens := putK H.gens x.mod, last := x.mod, kvs := fun r => if r = x.mod then some x else H.kvs r }
def newH : Hist := { gens := [], last := 0, kvs := fun _ => none }
def idS (S : St) (key : ByteArray) : Int := if (getT S.T key).2 then (getT S.T key).1 else S.next
def madeS (S : St) (key : ByteArray) : St :=
 if (getT S.T key).2 then S else { S with T := insT S.T key S.next, past := fun i => if i = S.next then some newH else S.past i, next := S.next + 1 }
def putS (S : St) (x : Kv) : St :=
 { madeS S x.key with past := fun i => if i = idS S x.key then some (putH (((madeS S x.key).past (idS S x.key)).getD newH) x) else (madeS S x.key).past i }
theorem zjh {W : World} {h g m : Nat} {FK : Nat → Prop} (ho : Has W h [.pointer (some ⟨g, 0, none⟩), .map (some m)]) (hk : KeyAt W g [] 0 FK) (hm : MapAt W m fun _ => none) (d1 : ¬ FK h) (d2 : ¬ FK m) :
 HistAt W h newH (fun b => b = h ∨ b = m ∨ FK b) := ⟨g, m, FK, ⟨ho, hk, hm, d1, d2⟩, fun _ => Iff.rfl⟩
theorem zpn {TA : zao} {N : Nat} (hT : TreeOk TA N) {w2 W4 : World} {s t p : Nat} {ev : Value} {hp : Int → Option Nat} {FT : Nat → Prop} {FH : Int → Nat → Prop} {S : St} (a : StoreR TA w2 s t p ev hp FT FH S) (id : Int)
 (hid : S.past id = none) (hwf : (Lit.int .i64 id).wf = true) (hf : Fr No w2 W4) {h : Nat} {F' : Nat → Prop} (hh : HistAt W4 h newH F') (hn : ∀ b, F' b → w2.heap.size ≤ b) :
 StoreR TA (mapUpW Tryz.prog 105 p id (.pointer (some ⟨h, 0, none⟩)) W4) s t p ev (fun i => if i = id then some h else hp i) FT (fun i => if i = id then F' else FH i) { S with past := fun i => if i = id then some newH else S.past i } ∧
  Fr (fun b => b = p) W4 (mapUpW Tryz.prog 105 p id (.pointer (some ⟨h, 0, none⟩)) W4) := by
 obtain ⟨_, h2, h3, _⟩ := (a.map.fr hf (fun s => s)).up (P := Tryz.prog) (t := 105) (k := 3) Tryz.underlying105 Tryz.underlying3 hwf (.pointer (some ⟨h, 0, none⟩)); refine ⟨(a.fr hT hf fun _ _ s => s).addHist hT hid h3 h2 (B := w2.heap.size) (a.lt hT) (hh.fr h3 fun b hb e => ?_) hn, h3⟩; have h4 := hn b hb; have h5 := a.map.lt; have h6 : b = p := e; omega
set_option maxHeartbeats 4000000 in
theorem zst {TA : zao} {N : Nat} (hT : TreeOk TA N) {n : Nat} (hn : n ≤ 1099511627) (w : World) (s : Nat) (S : St) (F : Nat → Prop) (hS : zaj TA w s S F) (hok : StOk n S) (x : Kv)
 (hroom : (getT S.T x.key).2 = false → S.T.length < N) (hm1 : 1 ≤ x.mod) (hm2 : x.mod ≤ top) (hlast : ∀ H, S.past (getT S.T x.key).1 = some H → (getT S.T x.key).2 = true → H.last < x.mod) :
 Calls Tryz.prog 122 #[.pointer (some ⟨s, 0, none⟩), kvV x] w fun e w' => (∃ v, e = .returned v) ∧ ∃ F', zaj TA w' s (putS S x) F' ∧ Fr F w w' ∧ (∀ b, F' b → F b ∨ w.heap.size ≤ b) := by
 obtain ⟨t, p, ev, hp, FT, FH, a, hF⟩ := hS; obtain ⟨x1, x2, x3, x4, x5, x6⟩ := x; have c0 := a.obj.cell 0 rfl; have l1 := a.obj.lt; have hget := fun W hW => hT.get (w := W) (t := t) (T := S.T) (F := FT) x1 hW; have HG := H_ hget; have HA := H_ a; have HFF := H_ hF; unfold kvV; dsimp only at *; clear hget a hF; go_enter Tryz.func122, Tryz.ntmps122; go_wp2_with fail; have hk := zad w (Obj.cells #[.string x1, .string x2, .int .i64 x3, .int .i64 x4, .int .i64 x5, .int .i64 x6] 99) _ rfl; have hf0 : Fr No w (w.alloc (Obj.cells #[.string x1, .string x2, .int .i64 x3, .int .i64 x4, .int .i64 x5, .int .i64 x6] 99)) := (Fr.refl No w).alloc _; generalize w.alloc (Obj.cells #[.string x1, .string x2, .int .i64 x3, .int .i64 x4, .int .i64 x5, .int .i64 x6] 99) = W0 at hk hf0 ⊢
 have k0 : W0.cell? ⟨w.heap.size, 0, none⟩ = some (.string x1) := by simp [World.cell?, hk]
 have e0 := hf0.cell0 c0
 go_region_held (fun W => W.cell? ⟨s, 0, none⟩ = some (.pointer (some ⟨t, 0, none⟩)) ∧ W.cell? ⟨w.heap.size, 0, none⟩ = some (.string x1))
  (first | exact ⟨e0, k0⟩ | exact ⟨hf1.cell0 e0, hf1.cell0 k0⟩)
  (first | (go_at_call 121; refine (HG.out _ (hT.fr HA.out.tree hf0.drew (fun _ _ s => s))).mono ?_; rintro e w1 ⟨rfl, hf1⟩; unfold zck))
 have hfA : Fr No w w1 := hf0.drew.trans0 hf1; have hkA := hf1.heap (b := w.heap.size) hk id; have hf1s : w.heap.size + 1 ≤ w1.heap.size := by have := zaa hkA; omega
 clear hk hf0 k0 e0 hf1; go_upto_if 18 with fail
 go_cut [4, 5] (fun s4 _ wx => s4 = .int .i64 (idS S x1) ∧ Hid (wx.heap[w.heap.size]? = some (.cells #[.string x1, .string x2, .int .i64 x3, .int .i64 x4, .int .i64 x5, .int .i64 x6] 99 (0, 0))) ∧
  ∃ hp' FT' FH', Hid (StoreR TA wx s t p ev hp' FT' FH' (madeS S x1)) ∧ Hid (Fr (storeF s p ev FT FH) w wx) ∧ Hid (∀ b, storeF s p ev FT' FH' b → storeF s p ev FT FH b ∨ w.heap.size < b))
 case first =>
  cases hg : (getT S.T x1).2
  · have c2 : w1.cell? ⟨s, 2, none⟩ = some (.int .i64 S.next) := hfA.cell0 (HA.out.obj.cell 2 rfl)
    have f2 : w1.frozen? ⟨s, 2, none⟩ = false := hfA.free0 (HA.out.obj.cell 2 rfl) (HA.out.obj.free 2); have hx1 := hok.pos; have hx2 := hok.next; have hl1 : s < w1.heap.size := (by have := hfA.size; omega); go_wp2_with fail; have ho := (HA.out.fr hT hfA fun _ _ s => s).obj.set 2 (.int .i64 (S.next + 1)); have hfs : Fr (fun b => b = s) w1 (w1.setCell ⟨s, 2, none⟩ (.int .i64 (S.next + 1))) := (Fr.refl _ w1).setAt 2 _; have hA1 := (HA.out.fr hT hfA fun _ _ s => s).setObj hT hfs (S.next + 1) S.rev S.mark ho; have hsz1 : (w1.setCell ⟨s, 2, none⟩ (.int .i64 (S.next + 1))).heap.size = w1.heap.size := (by simp); have hkB : (w1.setCell ⟨s, 2, none⟩ (.int .i64 (S.next + 1))).heap[w.heap.size]? = _ := hfs.heap hkA (by omega); have hfS : Fr (fun b => b = s) w (w1.setCell ⟨s, 2, none⟩ (.int .i64 (S.next + 1))) := hfA.mono (fun _ _ h => h.elim) |>.trans hfs fun _ _ h => h; have hS1 := hfS.size
    generalize w1.setCell ⟨s, 2, none⟩ (.int .i64 (S.next + 1)) = W1 at *; have hset := hT.set x1 S.next hA1.tree (hroom hg); have e0 := hA1.obj.cell 0 rfl; have k0 : W1.cell? ⟨w.heap.size, 0, none⟩ = some (.string x1) := (by simp [World.cell?, hkB]); have nT : ¬ FT s := hA1.ds.1; have nB : ¬ FT w.heap.size := fun h => by have := hT.lt HA.out.tree _ h; omega
    go_region_held (fun W => W.cell? ⟨s, 0, none⟩ = some (.pointer (some ⟨t, 0, none⟩)) ∧ W.cell? ⟨w.heap.size, 0, none⟩ = some (.string x1))
     (first | exact ⟨e0, k0⟩ | exact ⟨hf2.cell e0 nT, hf2.cell k0 nB⟩)
     (first | (go_at_call 116; refine (hT.set x1 S.next (hT.fr hA1.tree (Fr.refl No W1).drew (fun _ _ s => s)) (hroom hg)).mono ?_; rintro e w2 ⟨⟨v, rfl⟩, F2, ht2, hf2, hn2⟩))
    have hf2' : Fr FT W1 w2 := ((Fr.refl FT W1).drew).trans hf2 fun _ _ h => h; have hA2 := hA1.setTree hT hf2' ht2 hn2; have hkC := hf2'.heap hkB nB; have hfB : Fr (storeF s p ev FT FH) w w2 := (hfS.mono fun b _ h => .inl h).trans hf2' fun b _ h => .inr (.inr (.inl h))
    have hn2' : ∀ b, storeF s p ev F2 FH b → storeF s p ev FT FH b ∨ w.heap.size < b := by
     rintro b (h | h | h | h | h)
     · exact .inl (.inl h)
     · exact .inl (.inr (.inl h))
     · rcases hn2 b h with h | h
       · exact .inl (.inr (.inr (.inl h)))
       right; have := hf1s; simp at h; omega
     · exact .inl (.inr (.inr (.inr (.inl h))))
     exact .inl (.inr (.inr (.inr (.inr h))))
    have hwfn : (Lit.int .i64 S.next).wf = true := wf64 (by omega) (by omega); have m1 := hA2.obj.cell 1 rfl; have npp : ¬ s = p := fun e => hA2.map.apart hA2.obj e.symm
    have HS : ∀ W, Fr No w2 W → W.cell? ⟨s, 1, none⟩ = some (.map (some p)) ∧ ∀ v, (Instr.mapUpdate 105 (.map (some p)) (.int .i64 S.next) v).run Tryz.prog W = .ok () (mapUpW Tryz.prog 105 p S.next v W) := fun W hW =>
     ⟨hW.cell0 m1, fun v => ((hA2.map.fr hW id).up (P := Tryz.prog) (t := 105) (k := 3) Tryz.underlying105 Tryz.underlying3 hwfn v).1⟩
    have HS2 : ∀ W u, Fr No w2 W → (mapUpW Tryz.prog 105 p S.next u W).cell? ⟨s, 1, none⟩ = some (.map (some p)) ∧
     ∀ v, (Instr.mapUpdate 105 (.map (some p)) (.int .i64 S.next) v).run Tryz.prog (mapUpW Tryz.prog 105 p S.next u W) = .ok () (mapUpW Tryz.prog 105 p S.next v (mapUpW Tryz.prog 105 p S.next u W)) := fun W u hW => by
     obtain ⟨_, h2, h3, _⟩ := (hA2.map.fr hW id).up (P := Tryz.prog) (t := 105) (k := 3) Tryz.underlying105 Tryz.underlying3 hwfn u; exact ⟨h3.cell (hW.cell0 m1) npp, fun v => (h2.up (P := Tryz.prog) (t := 105) (k := 3) Tryz.underlying105 Tryz.underlying3 hwfn v).1⟩
    have H1 := H_ HS; have H2 := H_ HS2; have HAA := H_ hA2; have HKC := H_ hkC; have HFB := H_ hfB; have HN2 := H_ hn2'; clear HS HS2 hA2 hkC hfB hn2' hf2' hf2 ht2 hn2 hset hA1 hkB hfS hfs ho hkA hfA HG hsz1 e0 k0 m1; have hmm : ∀ w, (Instr.makeMap 169 none).run Tryz.prog w = .ok (.map (some w.heap.size)) (w.alloc (.map #[] 0)) := fun w => run_makeMap 169 w; go_wp2_with fail
    go_region_held (fun W => W.cell? ⟨s, 1, none⟩ = some (.map (some p)) ∧ ∀ v, (Instr.mapUpdate 105 (.map (some p)) (.int .i64 S.next) v).run Tryz.prog W = .ok () (mapUpW Tryz.prog 105 p S.next v W))
     (first
       | ((refine H1.out _ ?_); (repeat (first | with_reducible exact Fr.refl _ _ | with_reducible refine Fr.alloc ?_ _ | with_reducible refine Fr.drew ?_ | (refine Fr.trans0 ?_ (by assumption)))); done)
       | ((refine H2.out _ _ ?_); (repeat (first | with_reducible exact Fr.refl _ _ | with_reducible refine Fr.alloc ?_ _ | with_reducible refine Fr.drew ?_ | (refine Fr.trans0 ?_ (by assumption)))); done))
     (first | (go_at_call 117; refine (zkp _).mono ?_; rintro e w3 ⟨g, rfl, FK, hk3, hf3, hn3⟩))
    · have hf3' : Fr No w2 w3 := (Fr.refl No w2).drew.trans0 hf3
      have hsz3 := hf3'.size; have hks := hk3.lt; have hn3' : ∀ b, FK b → w2.heap.size ≤ b := hn3; have hf4 : Fr No w2 ((w3.alloc (Obj.map #[] 0)).alloc (Obj.cells #[Value.pointer (some ⟨g, 0, none⟩), Value.map (some w3.heap.size)] 171)) := (hf3'.alloc _).alloc _
      have hh : HistAt ((w3.alloc (Obj.map #[] 0)).alloc (Obj.cells #[Value.pointer (some ⟨g, 0, none⟩), Value.map (some w3.heap.size)] 171)) (w3.heap.size + 1) newH (fun b => b = w3.heap.size + 1 ∨ b = w3.heap.size ∨ FK b) :=
       zjh ⟨171, zad _ _ _ (by simp)⟩ (hk3.fr (((Fr.refl No w3).alloc _).alloc _) fun _ _ s => s) ((MapAt.made w3).alloc _) (fun h => by have := hks _ h; omega) (fun h => by have := hks _ h; omega)
      obtain ⟨hM, hf5⟩ := zpn hT HAA.out S.next (by
       cases hc : S.past S.next with
       | none => rfl
       | some H => have := hok.ids _ _ hc; omega) hwfn hf4 hh (fun b hb => by
         rcases hb with rfl | rfl | hb
         · omega
         · omega
         exact hn3' b hb)
      have HM := H_ hM; have H5 := H_ hf5; clear hM hf5 hh; go_wp2_with fail; go_meet
      case rel =>
       have hlp := HAA.out.map.lt; refine ⟨by unfold idS; rw [hg]; rfl, H_ (H5.out.heap (hf4.heap HKC.out id) ?_), _, _, _, H_ (by unfold madeS; rw [hg]; exact HM.out), H_ ?_, H_ ?_⟩
       · intro e
         have := HA.out.map.lt; have e' : w.heap.size = p := e; omega
       · exact (HFB.out.trans0 hf4).trans H5.out fun b _ e => .inr (.inl e)
       have hw2 := HFB.out.size
       have hkc := zaa HKC.out; rintro b (h | h | h | h | ⟨i, h⟩)
       · exact HN2.out b (.inl h)
       · exact HN2.out b (.inr (.inl h))
       · exact HN2.out b (.inr (.inr (.inl h)))
       · exact HN2.out b (.inr (.inr (.inr (.inl h))))
       by_cases hi : i = S.next
       · rw [if_pos hi] at h
         right
         rcases h with rfl | rfl | h
         · omega
         · omega
         have := hn3' b h; omega
       rw [if_neg hi] at h
       exact HN2.out b (.inr (.inr (.inr (.inr ⟨i, h⟩))))
    have hf3' : Fr No w2 w3 := ((Fr.refl No w2).alloc _).drew.trans0 hf3
    have hsz3 := hf3'.size; have hks := hk3.lt; have hn3' : ∀ b, FK b → w2.heap.size < b := fun b hb => by have := hn3 b hb; simp at this; omega
    have hsz3' : w2.heap.size + 1 ≤ w3.heap.size := (by have := hf3.size; simpa using this); have hmB : MapAt w3 w2.heap.size fun _ => none := (MapAt.made w2).fr (S := No) ((Fr.refl No (w2.alloc (Obj.map #[] 0))).drew.trans0 hf3) id; have hf4 : Fr No w2 (w3.alloc (Obj.cells #[Value.pointer (some ⟨g, 0, none⟩), Value.map (some w2.heap.size)] 171)) := hf3'.alloc _
    have hh : HistAt (w3.alloc (Obj.cells #[Value.pointer (some ⟨g, 0, none⟩), Value.map (some w2.heap.size)] 171)) w3.heap.size newH (fun b => b = w3.heap.size ∨ b = w2.heap.size ∨ FK b) :=
     zjh ⟨171, zad _ _ _ rfl⟩ (hk3.fr ((Fr.refl No w3).alloc _) fun _ _ s => s) (hmB.alloc _) (fun h => by have := hks _ h; omega) (fun h => by have := hn3' _ h; omega)
    obtain ⟨hM, hf5⟩ := zpn hT HAA.out S.next (by
     cases hc : S.past S.next with
     | none => rfl
     | some H => have := hok.ids _ _ hc; omega) hwfn hf4 hh (fun b hb => by
       rcases hb with rfl | rfl | hb
       · omega
       · omega
       exact Nat.le_of_lt (hn3' b hb))
    have HM := H_ hM; have H5 := H_ hf5; clear hM hf5 hh; go_wp2_with fail; go_meet
    case rel =>
     have hlp := HAA.out.map.lt; refine ⟨by unfold idS; rw [hg]; rfl, H_ (H5.out.heap (hf4.heap HKC.out id) ?_), _, _, _, H_ (by unfold madeS; rw [hg]; exact HM.out), H_ ?_, H_ ?_⟩
     · intro e
       have := HA.out.map.lt; have e' : w.heap.size = p := e; omega
     · exact (HFB.out.trans0 hf4).trans H5.out fun b _ e => .inr (.inl e)
     have hw2 := HFB.out.size
     have hkc := zaa HKC.out; rintro b (h | h | h | h | ⟨i, h⟩)
     · exact HN2.out b (.inl h)
     · exact HN2.out b (.inr (.inl h))
     · exact HN2.out b (.inr (.inr (.inl h)))
     · exact HN2.out b (.inr (.inr (.inr (.inl h))))
     by_cases hi : i = S.next
     · rw [if_pos hi] at h
       right
       rcases h with rfl | rfl | h
       · omega
       · omega
       have := hn3' b h; omega
     rw [if_neg hi] at h
     exact HN2.out b (.inr (.inr (.inr (.inr ⟨i, h⟩))))
  go_wp2_with fail
  go_meet
  case rel => exact ⟨by unfold idS; rw [hg]; rfl, H_ hkA, hp, FT, FH, H_ (by unfold madeS; rw [hg]; exact HA.out.fr hT hfA fun _ _ s => s), H_ (hfA.mono fun _ _ s => s.elim), H_ fun b h => .inl h⟩
 case rest =>
  obtain ⟨rfl, HK, hp', FT', FH', HM, HF, HN⟩ := hcut; have hx1 := hok.pos; have hx2 := hok.next
  obtain ⟨H1, hH1, hok1, hl1', hidr⟩ : ∃ H1, (madeS S x1).past (idS S x1) = some H1 ∧ HistOk n H1 ∧ H1.last < x4 ∧ 0 ≤ idS S x1 ∧ idS S x1 ≤ S.next := by
   unfold madeS idS; cases hg : (getT S.T x1).2
   · refine ⟨newH, by simp, ⟨by simp [newH], by simp [newH]⟩, by unfold newH; dsimp only; omega, by simp; omega⟩
   obtain ⟨H, hH⟩ : ∃ H, S.past (getT S.T x1).1 = some H := by
    revert hg
    unfold getT
    cases hf : S.T.find? (fun q => keq q.1 x1) with
    | none => intro h; cases h
    | some q => intro _; exact hok.id q (List.mem_of_find?_eq_some hf)
   have := hok.ids _ _ hH; exact ⟨H, by simpa using hH, (hok.hist _ _ hH).1, hlast H hH hg, by simp; omega⟩
  have hwf : (Lit.int .i64 (idS S x1)).wf = true := wf64 (by omega) (by omega); have hput : putS S ⟨x1, x2, x3, x4, x5, x6⟩ = { madeS S x1 with past := fun i => if i = idS S x1 then some (putH H1 ⟨x1, x2, x3, x4, x5, x6⟩) else (madeS S x1).past i } := (by unfold putS; dsimp only; rw [hH1]; rfl); have HPUT := H_ hput; clear hput; obtain ⟨h, hh, g, m, FK, b, hFH⟩ := HM.out.hist _ _ hH1; have hpl : ((hp' (idS S x1)).map fun h => Value.pointer (some ⟨h, 0, none⟩)).getD (.pointer none) = .pointer (some ⟨h, 0, none⟩) := (by rw [hh]; rfl); have c1s := HM.out.obj.cell 1 rfl; have h0 := b.obj.cell 0 rfl; have h1 := b.obj.cell 1 rfl; have k3 : wc.cell? ⟨w.heap.size, 3, none⟩ = some (.int .i64 x4) := (by simp [World.cell?, HK.out]); have ls := HM.out.obj.lt; have lh := b.obj.lt; have lk := zaa HK.out
  have hnbox : ¬ FH' (idS S x1) w.heap.size := fun e => by
   rcases HN.out _ (.inr (.inr (.inr (.inr ⟨_, e⟩)))) with e | e
   · have := HA.out.lt hT _ e; omega
   omega
  have nBK : ¬ FK w.heap.size := fun e => hnbox ((hFH _).2 (.inr (.inr e))); have nBm : w.heap.size ≠ m := fun e => hnbox ((hFH _).2 (.inr (.inl e))); have HB := H_ b; have HFH := H_ hFH; have Hpl := H_ hpl; have HOK1 := H_ hok1; clear b hFH hpl hok1 hnbox; go_wp2_with (at_lookup; refine zfm rfl _ _ 105 rfl 3 167 Tryz.underlying105 Tryz.underlying3 p _ rfl HM.out.map (idS S x1) rfl hwf _ (zero142 _) _ Hpl.out ?_)
  go_region_held (fun W => W.cell? ⟨h, 0, none⟩ = some (.pointer (some ⟨g, 0, none⟩)) ∧ W.cell? ⟨w.heap.size, 3, none⟩ = some (.int .i64 x4))
   (first | exact ⟨h0, k3⟩ | exact ⟨hf4.cell h0 HB.out.d1, hf4.cell k3 nBK⟩)
   (first | (go_at_call 118; refine (zun _ g H1.gens H1.last x4 FK (HB.out.key.fr (Fr.refl No wc).drew (fun _ _ s => s)) (HOK1.out.fits hn) hm1 hm2 hl1').mono ?_; rintro e w4 ⟨rfl, FK', hk4, hf4, hn4⟩))
  go_wp2_with fail; have hf4' : Fr FK wc w4 := ((Fr.refl FK wc).drew).trans hf4 fun _ _ h => h; have h1' := hf4'.cell h1 HB.out.d1; have hk6 := hf4'.heap HK.out nBK; have k0 : w4.cell? ⟨w.heap.size, 0, none⟩ = some (.string x1) := (by simp [World.cell?, hk6]); have k1 : w4.cell? ⟨w.heap.size, 1, none⟩ = some (.string x2) := (by simp [World.cell?, hk6]); have k2 : w4.cell? ⟨w.heap.size, 2, none⟩ = some (.int .i64 x3) := (by simp [World.cell?, hk6]); have k3' : w4.cell? ⟨w.heap.size, 3, none⟩ = some (.int .i64 x4) := (by simp [World.cell?, hk6]); have k4 : w4.cell? ⟨w.heap.size, 4, none⟩ = some (.int .i64 x5) := (by simp [World.cell?, hk6]); have k5 : w4.cell? ⟨w.heap.size, 5, none⟩ = some (.int .i64 x6) := (by simp [World.cell?, hk6]); have lh4 : h < w4.heap.size := (by have := hf4'.size; omega); have lk4 : w.heap.size < w4.heap.size := zaa hk6
  have hmw : MapAt w4.drew m fun r => (H1.kvs r).map kvV := HB.out.map.fr hf4'.drew HB.out.d2; have hwx : (Lit.int .i64 x4).wf = true := wf64 (by omega) (by unfold top at hm2; omega); have HF4 := H_ hf4'; have HK4 := H_ hk4; have HN4 := H_ hn4; clear hf4 hf4' hk4 hn4 hk6; refine wp_region_still_tail 7 (by kernel_rfl) (by kernel_rfl) ?_; simp only [List.take_succ_cons, List.take_zero, List.drop_succ_cons, List.drop_zero]; change wpStill _ _ w4.drew _ _ _
  repeat (refine wpStill_step (fun K hK => ?_); go_simp; (try go_bits); refine hK _ ?_; clear hK K)
  refine wpStill_nil ?_; change wpList _ _ _ _ _ w4.drew; refine zkr rfl _ _ _ 169 rfl 3 99 Tryz.underlying169 Tryz.underlying3 m _ rfl hmw x4 rfl hwx (kvV ⟨x1, x2, x3, x4, x5, x6⟩) rfl ?_; intro w5 hm5 hf5 hsz5; go_wp2; refine bodyPost_end (results_none rfl _ _ _) rfl ?_; have hlo := HB.out.map.lt; have hfc : Fr (FH' (idS S x1)) wc w5 := (HF4.out.drew.mono fun b _ e => (HFH.out b).2 (.inr (.inr e))).trans (hf5.mono (S := fun x => x = m) (T := FH' (idS S x1)) fun b _ e => (HFH.out b).2 (.inr (.inl e))) fun _ _ e => e
  have hhist : HistAt w5 h (putH H1 ⟨x1, x2, x3, x4, x5, x6⟩) (fun b => b = h ∨ b = m ∨ FK' b) := by
   refine ⟨g, m, FK', ⟨?_, ?_, ?_, ?_, ?_⟩, fun _ => Iff.rfl⟩
   · refine (HB.out.obj.fr HF4.out.drew HB.out.d1).fr hf5 fun e => ?_
     exact HB.out.map.apart HB.out.obj e.symm
   · refine HK4.out.fr ((Fr.refl (fun x => x = m) w4).drew.trans hf5 fun _ _ e => e) fun b hb e => ?_
     have e' : b = m := e; subst e'; rcases HN4.out _ hb with h5 | h5
     · exact HB.out.d2 h5
     have h6 : wc.heap.size ≤ b := h5
     omega
   · refine cast (congrArg (MapAt w5 m) ?_) hm5
     funext r
     unfold putH; dsimp only; by_cases hr : r = x4 <;> simp [hr]
   · intro hb
     rcases HN4.out _ hb with h5 | h5
     · exact HB.out.d1 h5
     have h6 : wc.heap.size ≤ h := h5
     omega
   intro hb
   rcases HN4.out _ hb with h5 | h5
   · exact HB.out.d2 h5
   have h6 : wc.heap.size ≤ m := h5
   omega
  have hnew : ∀ b, (b = h ∨ b = m ∨ FK' b) → FH' (idS S x1) b ∨ wc.heap.size ≤ b := by
   rintro b (e | e | e)
   · exact .inl ((HFH.out b).2 (.inl e))
   · exact .inl ((HFH.out b).2 (.inr (.inl e)))
   rcases HN4.out b e with h5 | h5
   · exact .inl ((HFH.out b).2 (.inr (.inr h5)))
   exact .inr h5
  have hfin := HM.out.setHist hT hh hfc hhist hnew; refine ⟨⟨_, rfl⟩, _, ⟨t, p, ev, hp', FT', _, by rw [HPUT.out]; exact hfin, fun _ => Iff.rfl⟩, ?_, ?_⟩
  · have hwc := HF.out.size
    refine (HF.out.trans hfc fun b hb e => ?_).mono fun b _ e => (HFF.out b).2 e; rcases HN.out b (.inr (.inr (.inr (.inr ⟨_, e⟩)))) with h5 | h5
    · exact h5
    omega
  have hwc := HF.out.size
  have old : ∀ b, storeF s p ev FT' FH' b → F b ∨ w.heap.size ≤ b := fun b hb => by
   rcases HN.out b hb with h5 | h5
   · exact .inl ((HFF.out b).2 h5)
   exact .inr (by omega)
  rintro b (e | e | e | e | ⟨i, e⟩)
  · exact old b (.inl e)
  · exact old b (.inr (.inl e))
  · exact old b (.inr (.inr (.inl e)))
  · exact old b (.inr (.inr (.inr (.inl e))))
  by_cases hi : i = idS S x1
  · rw [if_pos hi] at e
    rcases hnew b e with h5 | h5
    · exact old b (.inr (.inr (.inr (.inr ⟨_, h5⟩))))
    exact .inr (by omega)
  rw [if_neg hi] at e
  exact old b (.inr (.inr (.inr (.inr ⟨i, e⟩))))
theorem zml {w X : World} {b : Nat} {a0 a1 a2 a3 a4 a5 a6 a7 a8 a9 a10 a11 a12 : Value} (hk : X.heap[b]? = some (.cells #[a0, a1, a2, a3, a4, a5, a6, a7, a8, a9, a10, a11, a12] 101 (0, 0))) (r : Ev) :
 ∃ Z, (((((((((((((X.setCell ⟨b, 0, none⟩ (.int .i64 r.kind)).setCell ⟨b, 1, none⟩ (.string r.kv.key)).setCell ⟨b, 2, none⟩ (.string r.kv.value)).setCell ⟨b, 3, none⟩ (.int .i64 r.kv.create)).setCell ⟨b, 4, none⟩ (.int .i64 r.kv.mod)).setCell ⟨b, 5, none⟩ (.int .i64 r.kv.version)).setCell ⟨b, 6, none⟩ (.int .i64 r.kv.lease)).setCell ⟨b, 7, none⟩ (.string r.prev.key)).setCell ⟨b, 8, none⟩ (.string r.prev.value)).setCell ⟨b, 9, none⟩ (.int .i64 r.prev.create)).setCell ⟨b, 10, none⟩ (.int .i64 r.prev.mod)).setCell ⟨b, 11, none⟩ (.int .i64 r.prev.version)).setCell ⟨b, 12, none⟩ (.int .i64 r.prev.lease)) = Z ∧
  Z.heap[b]? = some (.cells #[.int .i64 r.kind, .string r.kv.key, .string r.kv.value, .int .i64 r.kv.create, .int .i64 r.kv.mod, .int .i64 r.kv.version, .int .i64 r.kv.lease, .string r.prev.key, .string r.prev.value, .int .i64 r.prev.create, .int .i64 r.prev.mod, .int .i64 r.prev.version, .int .i64 r.prev.lease] 101 (0, 0)) ∧ (Fr No w X → w.heap.size ≤ b → Fr No w Z) := by
 have z0 := zac hk 0 (.int .i64 r.kind); have z1 := zac z0 1 (.string r.kv.key); have z2 := zac z1 2 (.string r.kv.value); have z3 := zac z2 3 (.int .i64 r.kv.create); have z4 := zac z3 4 (.int .i64 r.kv.mod); have z5 := zac z4 5 (.int .i64 r.kv.version); have z6 := zac z5 6 (.int .i64 r.kv.lease); have z7 := zac z6 7 (.string r.prev.key); have z8 := zac z7 8 (.string r.prev.value); have z9 := zac z8 9 (.int .i64 r.prev.create); have z10 := zac z9 10 (.int .i64 r.prev.mod); have z11 := zac z10 11 (.int .i64 r.prev.version); have z12 := zac z11 12 (.int .i64 r.prev.lease)
 have hfZ := ((((((((((((((Fr.refl (fun x => x = b) X).setAt 0 (.int .i64 r.kind)).setAt 1 (.string r.kv.key)).setAt 2 (.string r.kv.value)).setAt 3 (.int .i64 r.kv.create)).setAt 4 (.int .i64 r.kv.mod)).setAt 5 (.int .i64 r.kv.version)).setAt 6 (.int .i64 r.kv.lease)).setAt 7 (.string r.prev.key)).setAt 8 (.string r.prev.value)).setAt 9 (.int .i64 r.prev.create)).setAt 10 (.int .i64 r.prev.mod)).setAt 11 (.int .i64 r.prev.version)).setAt 12 (.int .i64 r.prev.lease)); clear z0 z1 z2 z3 z4 z5 z6 z7 z8 z9 z10 z11
 generalize (((((((((((((X.setCell ⟨b, 0, none⟩ (.int .i64 r.kind)).setCell ⟨b, 1, none⟩ (.string r.kv.key)).setCell ⟨b, 2, none⟩ (.string r.kv.value)).setCell ⟨b, 3, none⟩ (.int .i64 r.kv.create)).setCell ⟨b, 4, none⟩ (.int .i64 r.kv.mod)).setCell ⟨b, 5, none⟩ (.int .i64 r.kv.version)).setCell ⟨b, 6, none⟩ (.int .i64 r.kv.lease)).setCell ⟨b, 7, none⟩ (.string r.prev.key)).setCell ⟨b, 8, none⟩ (.string r.prev.value)).setCell ⟨b, 9, none⟩ (.int .i64 r.prev.create)).setCell ⟨b, 10, none⟩ (.int .i64 r.prev.mod)).setCell ⟨b, 11, none⟩ (.int .i64 r.prev.version)).setCell ⟨b, 12, none⟩ (.int .i64 r.prev.lease)) = Z at *; refine ⟨Z, rfl, ?_, fun hf hb => hf.trans hfZ fun j hj e => ?_⟩
 · rw [z12]; simp
 have e' : j = b := e
 omega
def zav (S : St) (o : Opr) (rev : Int) : Ev :=
 ⟨1, ⟨o.rg.key, o.value, if (livesS S o.rg.key rev).1.version = 0 then rev else (livesS S o.rg.key rev).1.create, rev, (livesS S o.rg.key rev).1.version + 1, o.lease⟩, (livesS S o.rg.key rev).1⟩
set_option maxHeartbeats 2000000 in
theorem zjx {TA : zao} {N : Nat} (hT : TreeOk TA N) {n : Nat} (hn : n ≤ 1099511627) (w : World) (s : Nat) (S : St) (F : Nat → Prop) (hS : zaj TA w s S F) (hok : StOk n S) (o : Opr) (rev : Int)
 (hv0 : 0 ≤ (livesS S o.rg.key rev).1.version) (hv1 : (livesS S o.rg.key rev).1.version ≤ top) :
 Calls Tryz.prog 87 #[.pointer (some ⟨s, 0, none⟩), opV o, .int .i64 rev] w fun e w' => e = .returned (evV (zav S o rev)) ∧ Fr No w w' := by
 have hl := fun W hW => zhu hT hn W s S F hW hok o.rg.key rev; obtain ⟨o1, ⟨g1, g2, g3, g4, g5, g6, g7⟩, o2, o3⟩ := o; have HS := H_ hS; have HL := H_ hl; unfold zav opV; dsimp only at *; rcases hr : livesS S g1 rev with ⟨⟨r1, r2, r3, r4, r5, r6⟩, rb⟩
 rw [hr] at hv0 hv1; unfold top at hv1; have HR := H_ hr; clear hS hl hr hok; dsimp only at *; have hv2 : r5 + 1 ≤ 1099511627777 := by omega
 by_cases hz : r5 = 0
 · subst hz
   go_enter Tryz.func87, Tryz.ntmps87
   go_wp2_with (go_at_call 66; refine (HL.out _ ((HS.out.fr0 hT ((Fr.refl No w).alloc _)).fr0 hT ((Fr.refl No _).alloc _))).mono ?_; rintro e w1 ⟨rfl, hf1⟩
                rw [HR.out]; unfold zch kvV; have hf2 : Fr No w w1 := (((Fr.refl No w).alloc _).alloc _).trans0 hf1; have hb : w1.heap[w.heap.size]? = some (.cells #[.int .i64 o1, .string g1, .string g2, .int .i64 g3, .int .i64 g4, .bool g5, .bool g6, .bool g7, .string o2, .int .i64 o3] 94 (0, 0)) := hf1.heap (zal (zad _ _ _ rfl) _) id; have he : w1.heap[w.heap.size + 1]? = some (.cells #[.int .i64 0, .string ByteArray.empty, .string ByteArray.empty, .int .i64 0, .int .i64 0, .int .i64 0, .int .i64 0, .string ByteArray.empty, .string ByteArray.empty, .int .i64 0, .int .i64 0, .int .i64 0, .int .i64 0] 101 (0, 0)) := hf1.heap (zad _ _ _ (by simp)) id; have x1 : w1.cell? ⟨w.heap.size, 1, none⟩ = some (.string g1) := (by simp [World.cell?, hb]); have x8 : w1.cell? ⟨w.heap.size, 8, none⟩ = some (.string o2) := (by simp [World.cell?, hb])
                have x9 : w1.cell? ⟨w.heap.size, 9, none⟩ = some (.int .i64 o3) := (by simp [World.cell?, hb]); have k0 : w1.cell? ⟨w.heap.size + 1, 0, none⟩ = some (.int .i64 0) := (by simp [World.cell?, he]); have k1 : w1.cell? ⟨w.heap.size + 1, 1, none⟩ = some (.string ByteArray.empty) := (by simp [World.cell?, he]); have k2 : w1.cell? ⟨w.heap.size + 1, 2, none⟩ = some (.string ByteArray.empty) := (by simp [World.cell?, he]); have k3 : w1.cell? ⟨w.heap.size + 1, 3, none⟩ = some (.int .i64 0) := (by simp [World.cell?, he]); have k4 : w1.cell? ⟨w.heap.size + 1, 4, none⟩ = some (.int .i64 0) := (by simp [World.cell?, he]); have k5 : w1.cell? ⟨w.heap.size + 1, 5, none⟩ = some (.int .i64 0) := (by simp [World.cell?, he]); have k6 : w1.cell? ⟨w.heap.size + 1, 6, none⟩ = some (.int .i64 0) := (by simp [World.cell?, he])
                have k7 : w1.cell? ⟨w.heap.size + 1, 7, none⟩ = some (.string ByteArray.empty) := (by simp [World.cell?, he]); have k8 : w1.cell? ⟨w.heap.size + 1, 8, none⟩ = some (.string ByteArray.empty) := (by simp [World.cell?, he]); have k9 : w1.cell? ⟨w.heap.size + 1, 9, none⟩ = some (.int .i64 0) := (by simp [World.cell?, he]); have k10 : w1.cell? ⟨w.heap.size + 1, 10, none⟩ = some (.int .i64 0) := (by simp [World.cell?, he]); have k11 : w1.cell? ⟨w.heap.size + 1, 11, none⟩ = some (.int .i64 0) := (by simp [World.cell?, he]); have k12 : w1.cell? ⟨w.heap.size + 1, 12, none⟩ = some (.int .i64 0) := (by simp [World.cell?, he]); have kf : ∀ i, w1.frozen? ⟨w.heap.size + 1, i, none⟩ = false := fun i => by simp [World.frozen?, he]
                have hl0 : w.heap.size < w1.heap.size := zaa hb; have hl1 : w.heap.size + 1 < w1.heap.size := zaa he)
   obtain ⟨Z, hZ, z6, hzf⟩ := zml (w := w) he ⟨1, ⟨g1, o2, rev, rev, 1, o3⟩, ⟨r1, r2, r3, r4, 0, r6⟩⟩; dsimp only at hZ z6; rw [hZ]; exact bodyPost_ret (results_cell_row rfl _ _ (w.heap.size + 1) 101 _ (0, 0) _ rfl (zal (zal z6 _) _) Tryz.underlying101 rfl (by kernel_rfl)) rfl ⟨by first | rfl | (rw [if_neg hz]; rfl), ((hzf hf2 (by omega)).alloc _).alloc _⟩
 have hz' : (r5 == 0) = false := by simpa using hz
 go_enter Tryz.func87, Tryz.ntmps87
 go_wp2_with (go_at_call 66; refine (HL.out _ ((HS.out.fr0 hT ((Fr.refl No w).alloc _)).fr0 hT ((Fr.refl No _).alloc _))).mono ?_; rintro e w1 ⟨rfl, hf1⟩
              rw [HR.out]; unfold zch kvV; have hf2 : Fr No w w1 := (((Fr.refl No w).alloc _).alloc _).trans0 hf1; have hb : w1.heap[w.heap.size]? = some (.cells #[.int .i64 o1, .string g1, .string g2, .int .i64 g3, .int .i64 g4, .bool g5, .bool g6, .bool g7, .string o2, .int .i64 o3] 94 (0, 0)) := hf1.heap (zal (zad _ _ _ rfl) _) id; have he : w1.heap[w.heap.size + 1]? = some (.cells #[.int .i64 0, .string ByteArray.empty, .string ByteArray.empty, .int .i64 0, .int .i64 0, .int .i64 0, .int .i64 0, .string ByteArray.empty, .string ByteArray.empty, .int .i64 0, .int .i64 0, .int .i64 0, .int .i64 0] 101 (0, 0)) := hf1.heap (zad _ _ _ (by simp)) id; have x1 : w1.cell? ⟨w.heap.size, 1, none⟩ = some (.string g1) := (by simp [World.cell?, hb]); have x8 : w1.cell? ⟨w.heap.size, 8, none⟩ = some (.string o2) := (by simp [World.cell?, hb])
              have x9 : w1.cell? ⟨w.heap.size, 9, none⟩ = some (.int .i64 o3) := (by simp [World.cell?, hb]); have k0 : w1.cell? ⟨w.heap.size + 1, 0, none⟩ = some (.int .i64 0) := (by simp [World.cell?, he]); have k1 : w1.cell? ⟨w.heap.size + 1, 1, none⟩ = some (.string ByteArray.empty) := (by simp [World.cell?, he]); have k2 : w1.cell? ⟨w.heap.size + 1, 2, none⟩ = some (.string ByteArray.empty) := (by simp [World.cell?, he]); have k3 : w1.cell? ⟨w.heap.size + 1, 3, none⟩ = some (.int .i64 0) := (by simp [World.cell?, he]); have k4 : w1.cell? ⟨w.heap.size + 1, 4, none⟩ = some (.int .i64 0) := (by simp [World.cell?, he]); have k5 : w1.cell? ⟨w.heap.size + 1, 5, none⟩ = some (.int .i64 0) := (by simp [World.cell?, he]); have k6 : w1.cell? ⟨w.heap.size + 1, 6, none⟩ = some (.int .i64 0) := (by simp [World.cell?, he])
              have k7 : w1.cell? ⟨w.heap.size + 1, 7, none⟩ = some (.string ByteArray.empty) := (by simp [World.cell?, he]); have k8 : w1.cell? ⟨w.heap.size + 1, 8, none⟩ = some (.string ByteArray.empty) := (by simp [World.cell?, he]); have k9 : w1.cell? ⟨w.heap.size + 1, 9, none⟩ = some (.int .i64 0) := (by simp [World.cell?, he]); have k10 : w1.cell? ⟨w.heap.size + 1, 10, none⟩ = some (.int .i64 0) := (by simp [World.cell?, he]); have k11 : w1.cell? ⟨w.heap.size + 1, 11, none⟩ = some (.int .i64 0) := (by simp [World.cell?, he]); have k12 : w1.cell? ⟨w.heap.size + 1, 12, none⟩ = some (.int .i64 0) := (by simp [World.cell?, he]); have kf : ∀ i, w1.frozen? ⟨w.heap.size + 1, i, none⟩ = false := fun i => by simp [World.frozen?, he]
              have hl0 : w.heap.size < w1.heap.size := zaa hb; have hl1 : w.heap.size + 1 < w1.heap.size := zaa he)
 obtain ⟨Z, hZ, z6, hzf⟩ := zml (w := w) he ⟨1, ⟨g1, o2, r3, rev, r5 + 1, o3⟩, ⟨r1, r2, r3, r4, r5, r6⟩⟩; dsimp only at hZ z6; rw [hZ]; exact bodyPost_ret (results_cell_row rfl _ _ (w.heap.size + 1) 101 _ (0, 0) _ rfl (zal (zal z6 _) _) Tryz.underlying101 rfl (by kernel_rfl)) rfl ⟨by first | rfl | (rw [if_neg hz]; rfl), ((hzf hf2 (by omega)).alloc _).alloc _⟩
open Go Go.RowKit
theorem zfv {α : Type} {f : α → List Value} {P : Program} {w : World} {ops : Array Oper} {o : Oper} {a : Act} {K : Act → World → Prop} {Q : Exit → Act → World → Prop} {E : Prop} (hgd : o.guard = none) (s x : Operand) (t : TypeId)
 (ho : o.op = .call { callee := .builtin .append, args := #[s, x], argTypes := #[t, t] })
 (e : TypeId) (i : TypeInfo) (z : Value) (sz bytes : Nat) (ht : P.underlying t = some (.slice e)) (hi : P.info? e = some i) (hz : i.zero = some z) (hsize : i.size = sz) (hby : i.bytes = bytes) (hzs : z.cells.size = sz) (hsz : 0 < sz)
 (v : Value) (L : List α) (hs : a.eval s = v) (hown : SlF w e sz f v L)
 (b c : Nat) (y : α) (hx : a.eval x = .slice (some ⟨b, 0, none⟩) 1 c) (hnews : ∀ j u, (f y)[j]? = some u → w.cell? ((⟨b, 0, none⟩ : Addr).add j) = some u) (hl : (f y).length = sz) (h1 : ∀ u ∈ f y, u.oneCell' = true)
 (h63 : L.length + 1 ≤ maxLen) (hbytes : (L.length + 1) * bytes ≤ 140737488355328)
 (h : ∀ g o' cap w', SlF w' e sz f (.slice (some ⟨g, o', none⟩) (L.length + 1) cap) (L ++ [y]) → w.grownBy w' v.ownBlock → (v.ownBlock = some g ∨ g = w.heap.size) → g < w'.heap.size →
   K (a.put o.dst (.slice (some ⟨g, o', none⟩) (L.length + 1) cap)) w') :
 if Region.wanted o (yielded ops a.tmps) = true then Oper.wp P o a w K Q else E := by
 have hw : Region.wanted o (yielded ops a.tmps) = true := by simp [Region.wanted, hgd]
 rw [if_pos hw]; subst hsize; subst hby; obtain ⟨g, o', cap, w', hr, h2, h3, h4, h5⟩ := zcq (P := P) w t o.type e i z ht hi hz hzs hsz v L.length (L.flatMap f) hown ⟨b, 0, none⟩ 1 c (f y) (by omega) (by omega) hnews h1 h63 hbytes; unfold Oper.wp execOp; simp only [ho, resolve, invoke, builtin, Sem.run_bind, Sem.run_pure, Result.andThen_ok, List.map_toArray, List.map_cons, List.map_nil, hs, hx, hr]; refine h g o' cap w' ?_ h3 h4 h5; unfold SlF; simpa using h2
theorem zca {fn : Func} {t u v x : Tmp} (h : fn.results = #[.tmp t, .tmp u, .tmp v, .tmp x]) (tmps : Array Value) (P : Program) (w : World) :
 (results fn tmps).run P w = .ok (.tuple #[tmps.getD t undef, tmps.getD u undef, tmps.getD v undef, tmps.getD x undef]) w := by
 simp [results, h]
end Go.Proofs.YthljnnjpmdgkoaaGreat