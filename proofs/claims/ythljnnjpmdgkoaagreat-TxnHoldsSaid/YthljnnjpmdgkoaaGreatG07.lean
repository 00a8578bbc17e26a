/- Lemmas for the claim. Conditions stand in each. -/
import Derived.Test.YthljnnjpmdgkoaaGreatG06
import Derived.Test.YthljnnjpmdgkoaaGreatG05
namespace Go.Proofs.YthljnnjpmdgkoaaGreat
open Go Go.Proofs Go.RowKit
set_option maxRecDepth 100000
def tombH (H : Hist) (rev : Int) : Hist := { H with gens := tombK H.gens rev, last := rev }
def tombS (S : St) (x : Kv) : St :=
 if (getT S.T x.key).2 then { S with past := fun i => if i = (getT S.T x.key).1 then (S.past (getT S.T x.key).1).map (fun H => tombH H x.mod) else S.past i } else S
def doneS (S : St) (x : Ev) : St := if x.kind = 1 then putS S x.kv else tombS S x.kv
def doS (S : St) (x : Ev) : St := { doneS S x with events := (doneS S x).events ++ [x] }
theorem info73 : (Tryz.prog.info? 101).map (fun i => (i.zero, i.size, i.bytes)) = some (some (.agg #[.int .i64 0, .string ByteArray.empty, .string ByteArray.empty, .int .i64 0, .int .i64 0, .int .i64 0, .int .i64 0, .string ByteArray.empty, .string ByteArray.empty, .int .i64 0, .int .i64 0, .int .i64 0, .int .i64 0]), 13, 136) := by kernel_rfl
theorem zex (S : St) (x : Ev) : (doneS S x).events = S.events := by
 unfold doneS putS tombS madeS; dsimp only
 split
 · split <;> rfl
 split <;> rfl
structure DoOk (N : Nat) (S : St) (x : Ev) : Prop where
 m1 : 1 ≤ x.kv.mod
 m2 : x.kv.mod ≤ top
 last : ∀ H, S.past (getT S.T x.kv.key).1 = some H → (getT S.T x.kv.key).2 = true → H.last < x.kv.mod
 room : x.kind = 1 → (getT S.T x.kv.key).2 = false → S.T.length < N
 opened : x.kind ≠ 1 → ∀ H, S.past (getT S.T x.kv.key).1 = some H → (getT S.T x.kv.key).2 = true → isOpen H.gens = true
set_option maxHeartbeats 4000000 in
theorem zpy {TA : zao} {N : Nat} (hT : TreeOk TA N) {n : Nat} (hn : n ≤ 1099511627) (w : World) (s : Nat) (S : St) (F : Nat → Prop) (hS : zaj TA w s S F) (hok : StOk n S) (x : Ev) (hx : DoOk N S x) :
 Calls Tryz.prog 68 #[.pointer (some ⟨s, 0, none⟩), evV x] w fun e w' => (∃ v, e = .returned v) ∧ ∃ F', zaj TA w' s (doS S x) F' ∧ Fr F w w' ∧ (∀ b, F' b → F b ∨ w.heap.size ≤ b) := by
 have hpv : (∃ v, kvV x.kv = v) := ⟨_, rfl⟩; have HS := H_ hS; have HX := H_ hx; have hls := hS.lt hT; have HLS := H_ hls; unfold evV; clear hS hx hls hpv; go_enter Tryz.func68, Tryz.ntmps68; go_upto_if 8 with fail
 go_cut [1] (fun _ wx => Hid (wx.heap[w.heap.size]? = some (.cells #[.int .i64 x.kind, .string x.kv.key, .string x.kv.value, .int .i64 x.kv.create, .int .i64 x.kv.mod, .int .i64 x.kv.version, .int .i64 x.kv.lease, .string x.prev.key, .string x.prev.value, .int .i64 x.prev.create, .int .i64 x.prev.mod, .int .i64 x.prev.version, .int .i64 x.prev.lease] 101 (0, 0))) ∧ ∃ F1, Hid (zaj TA wx s (doneS S x) F1) ∧ Hid (Fr F w wx) ∧ Hid (∀ b, F1 b → F b ∨ w.heap.size < b))
 case first =>
  by_cases hk : x.kind = 1
  · have hkb : (x.kind == 1) = true := by simpa using hk
    have HK1 := H_ hk; go_wp2_with (go_at_call 122; refine (zst hT hn _ s S F (HS.out.fr0 hT ((Fr.refl No w).alloc _)) hok x.kv (HX.out.room HK1.out) HX.out.m1 HX.out.m2 HX.out.last).mono ?_; rintro e w1 ⟨⟨v, rfl⟩, F1, hs1, hf1, hn1⟩); go_meet
    case rel =>
     have hnb : ¬ F w.heap.size := fun h => by have := HLS.out _ h; omega
     refine ⟨H_ (hf1.heap ?_ hnb), F1, H_ (by unfold doneS; rw [if_pos HK1.out]; exact hs1), H_ (((Fr.refl F w).alloc _).trans hf1 fun _ _ h => h), H_ fun b hb => ?_⟩
     · rw [HK1.out]; exact zad _ _ _ rfl
     rcases hn1 b hb with h | h
     · exact .inl h
     simp at h; exact .inr (by omega)
  have hkb : (x.kind == 1) = false := by simpa using hk
  obtain ⟨t, p, ev, hp, FT, FH, a, hF⟩ := HS.out; have HA := H_ a; have HFF := H_ hF; have hbx := zad w (Obj.cells #[.int .i64 x.kind, .string x.kv.key, .string x.kv.value, .int .i64 x.kv.create, .int .i64 x.kv.mod, .int .i64 x.kv.version, .int .i64 x.kv.lease, .string x.prev.key, .string x.prev.value, .int .i64 x.prev.create, .int .i64 x.prev.mod, .int .i64 x.prev.version, .int .i64 x.prev.lease] 101) _ rfl; have hf0 : Fr No w (w.alloc (Obj.cells #[.int .i64 x.kind, .string x.kv.key, .string x.kv.value, .int .i64 x.kv.create, .int .i64 x.kv.mod, .int .i64 x.kv.version, .int .i64 x.kv.lease, .string x.prev.key, .string x.prev.value, .int .i64 x.prev.create, .int .i64 x.prev.mod, .int .i64 x.prev.version, .int .i64 x.prev.lease] 101)) := (Fr.refl No w).alloc _; clear a hF; go_wp2_with fail
  generalize w.alloc (Obj.cells #[.int .i64 x.kind, .string x.kv.key, .string x.kv.value, .int .i64 x.kv.create, .int .i64 x.kv.mod, .int .i64 x.kv.version, .int .i64 x.kv.lease, .string x.prev.key, .string x.prev.value, .int .i64 x.prev.create, .int .i64 x.prev.mod, .int .i64 x.prev.version, .int .i64 x.prev.lease] 101) = W0 at hbx hf0 ⊢
  have c0 := HA.out.obj.cell 0 rfl; have e0 := hf0.cell0 c0; have k0 : W0.cell? ⟨w.heap.size, 1, none⟩ = some (.string x.kv.key) := (by simp [World.cell?, hbx]); have ls := HA.out.obj.lt; have lb := zaa hbx
  go_region_held (fun W => W.cell? ⟨s, 0, none⟩ = some (.pointer (some ⟨t, 0, none⟩)) ∧ W.cell? ⟨w.heap.size, 1, none⟩ = some (.string x.kv.key))
   (first | exact ⟨e0, k0⟩ | exact ⟨hf1.cell0 e0, hf1.cell0 k0⟩)
   (first | (go_at_call 121; refine (hT.get x.kv.key (hT.fr HA.out.tree hf0.drew (fun _ _ s => s))).mono ?_; rintro e w1 ⟨rfl, hf1⟩; unfold zck))
  have hfA : Fr No w w1 := hf0.drew.trans0 hf1; have hbA := hf1.heap (b := w.heap.size) hbx id; have hsA := HA.out.fr hT hfA fun _ _ s => s; have l1A := hfA.size; clear hf1 e0 k0 c0 hf0 hbx; cases hg : (getT S.T x.kv.key).2
  · go_wp2_with fail
    go_meet
    case rel => exact ⟨H_ hbA, F, H_ (by unfold doneS tombS; rw [if_neg hk, hg]; exact ⟨t, p, ev, hp, FT, FH, hsA, HFF.out⟩), H_ (hfA.mono fun _ _ s => s.elim), H_ fun b h => .inl h⟩
  have hidH : ∃ H, S.past (getT S.T x.kv.key).1 = some H := by
   revert hg
   unfold getT
   cases hf : S.T.find? (fun q => keq q.1 x.kv.key) with
   | none => intro h; cases h
   | some q => intro _; exact hok.id q (List.mem_of_find?_eq_some hf)
  obtain ⟨H, hH⟩ := hidH; obtain ⟨h, hh, g, m, FK, b, hFH⟩ := hsA.hist _ _ hH; have hids := hok.ids _ _ hH; have hnx := hok.next; have hwf : (Lit.int .i64 (getT S.T x.kv.key).1).wf = true := wf64 (by omega) (by omega); have hplk := MapAt.look (P := Tryz.prog) (t := 105) hsA.map Tryz.underlying105 Tryz.underlying3 hwf (zero142 _); have hpl : ((hp (getT S.T x.kv.key).1).map fun h => Value.pointer (some ⟨h, 0, none⟩)).getD (.pointer none) = .pointer (some ⟨h, 0, none⟩) := (by rw [hh]; rfl); have c1 := hsA.obj.cell 1 rfl; have h0 := b.obj.cell 0 rfl; have k4 : w1.cell? ⟨w.heap.size, 4, none⟩ = some (.int .i64 x.kv.mod) := (by simp [World.cell?, hbA]); have lbox : w.heap.size < w1.heap.size := zaa hbA; have nKs : ¬ FK s := fun e => hsA.ds.2.2 _ ((hFH _).2 (.inr (.inr e))); have nKp : ¬ FK p := fun e => hsA.dp.2.2 _ ((hFH _).2 (.inr (.inr e)))
  have nKb : ¬ FK w.heap.size := fun e => by
   have := HA.out.lt hT _ (.inr (.inr (.inr (.inr ⟨_, (hFH _).2 (.inr (.inr e))⟩)))); omega
  have lh := b.obj.lt; have lsA := hsA.obj.lt
  have HSW : ∀ W, Fr FK w1 W → W.cell? ⟨s, 1, none⟩ = some (.map (some p)) ∧ (Instr.lookup 105 (.map (some p)) (.int .i64 (getT S.T x.kv.key).1) false).run Tryz.prog W = .ok (.pointer (some ⟨h, 0, none⟩)) W ∧
   W.cell? ⟨h, 0, none⟩ = some (.pointer (some ⟨g, 0, none⟩)) ∧ W.cell? ⟨w.heap.size, 4, none⟩ = some (.int .i64 x.kv.mod) := by
   intro W hW; refine ⟨hW.cell c1 nKs, ?_, hW.cell h0 b.d1, hW.cell k4 nKb⟩; have := MapAt.look (P := Tryz.prog) (t := 105) (hsA.map.fr hW nKp) Tryz.underlying105 Tryz.underlying3 hwf (zero142 _); rw [hpl] at this; exact this
  have H1 := H_ HSW; have HSA := H_ hsA; have HB := H_ b; have HFH := H_ hFH; have HHok := H_ (hok.hist _ _ hH); clear HSW hsA b hFH hplk hpl; go_wp2_with fail
  go_region_held (fun W => W.cell? ⟨s, 1, none⟩ = some (.map (some p)) ∧ (Instr.lookup 105 (.map (some p)) (.int .i64 (getT S.T x.kv.key).1) false).run Tryz.prog W = .ok (.pointer (some ⟨h, 0, none⟩)) W ∧
   W.cell? ⟨h, 0, none⟩ = some (.pointer (some ⟨g, 0, none⟩)) ∧ W.cell? ⟨w.heap.size, 4, none⟩ = some (.int .i64 x.kv.mod))
   (first | exact H1.out _ (Fr.refl FK w1).drew | exact H1.out _ ((Fr.refl FK w1).drew.trans hf4 fun _ _ h => h))
   (first | (go_at_call 123; refine (zik _ g H.gens H.last x.kv.mod FK (HB.out.key.fr (Fr.refl No w1).drew (fun _ _ s => s)) (HHok.out.1.fits hn) (HX.out.opened hk H hH hg) HX.out.m1 HX.out.m2 (HX.out.last H hH hg)).mono ?_; rintro e w4 ⟨rfl, hk4, hf4⟩))
  go_wp2_with fail; go_meet
  case rel =>
   have hf4' : Fr FK w1 w4 := (Fr.refl FK w1).drew.trans hf4 fun _ _ h => h; have hfc : Fr (FH (getT S.T x.kv.key).1) w1 w4 := hf4'.mono fun b _ e => (HFH.out b).2 (.inr (.inr e))
   have hhist : HistAt w4 h (tombH H x.kv.mod) (fun b => b = h ∨ b = m ∨ FK b) :=
    ⟨g, m, FK, ⟨HB.out.obj.fr hf4' HB.out.d1, hk4, HB.out.map.fr hf4' HB.out.d2, HB.out.d1, HB.out.d2⟩, fun _ => Iff.rfl⟩
   have hfin := HSA.out.setHist hT hh hfc hhist fun b hb => .inl ((HFH.out b).2 hb)
   have heq : doneS S x = { S with past := fun i => if i = (getT S.T x.kv.key).1 then some (tombH H x.kv.mod) else S.past i } := by
    unfold doneS tombS; rw [if_neg hk, hg, hH]
    rfl
   have hset : ∀ b, storeF s p ev FT (fun i => if i = (getT S.T x.kv.key).1 then (fun b => b = h ∨ b = m ∨ FK b) else FH i) b → F b := by
    rintro b (e | e | e | e | ⟨i, e⟩)
    · exact (HFF.out b).2 (.inl e)
    · exact (HFF.out b).2 (.inr (.inl e))
    · exact (HFF.out b).2 (.inr (.inr (.inl e)))
    · exact (HFF.out b).2 (.inr (.inr (.inr (.inl e))))
    by_cases hi : i = (getT S.T x.kv.key).1
    · rw [if_pos hi] at e
      exact (HFF.out b).2 (.inr (.inr (.inr (.inr ⟨_, (HFH.out b).2 e⟩))))
    rw [if_neg hi] at e
    exact (HFF.out b).2 (.inr (.inr (.inr (.inr ⟨i, e⟩))))
   exact ⟨H_ (hf4'.heap hbA nKb), _, H_ (by rw [heq]; exact ⟨t, p, ev, hp, FT, _, hfin, fun _ => Iff.rfl⟩),
    H_ ((hfA.mono fun _ _ s => s.elim).trans hfc fun b _ e => (HFF.out b).2 (.inr (.inr (.inr (.inr ⟨_, e⟩))))), H_ fun b hb => .inl (hset b hb)⟩
 case rest =>
  obtain ⟨HK, F1, HS1, HF, HN⟩ := hcut; obtain ⟨t, p, ev, hp, FT, FH, a, hF1⟩ := HS1.out; obtain ⟨ea, ecap, rfl, hc1, hc2, hea⟩ := a.events.shape; have HA := H_ a; have HF1 := H_ hF1; have c5 := a.obj.cell 5 rfl; have f5 := a.obj.free 5; have ls := a.obj.lt; have lb := zaa HK.out; have k0 : wc.cell? ⟨w.heap.size, 0, none⟩ = some (.int .i64 x.kind) := (by simp [World.cell?, HK.out]); have k1 : wc.cell? ⟨w.heap.size, 1, none⟩ = some (.string x.kv.key) := (by simp [World.cell?, HK.out]); have k2 : wc.cell? ⟨w.heap.size, 2, none⟩ = some (.string x.kv.value) := (by simp [World.cell?, HK.out]); have k3 : wc.cell? ⟨w.heap.size, 3, none⟩ = some (.int .i64 x.kv.create) := (by simp [World.cell?, HK.out]); have k4 : wc.cell? ⟨w.heap.size, 4, none⟩ = some (.int .i64 x.kv.mod) := (by simp [World.cell?, HK.out])
  have k5 : wc.cell? ⟨w.heap.size, 5, none⟩ = some (.int .i64 x.kv.version) := (by simp [World.cell?, HK.out]); have k6 : wc.cell? ⟨w.heap.size, 6, none⟩ = some (.int .i64 x.kv.lease) := (by simp [World.cell?, HK.out]); have k7 : wc.cell? ⟨w.heap.size, 7, none⟩ = some (.string x.prev.key) := (by simp [World.cell?, HK.out]); have k8 : wc.cell? ⟨w.heap.size, 8, none⟩ = some (.string x.prev.value) := (by simp [World.cell?, HK.out]); have k9 : wc.cell? ⟨w.heap.size, 9, none⟩ = some (.int .i64 x.prev.create) := (by simp [World.cell?, HK.out]); have k10 : wc.cell? ⟨w.heap.size, 10, none⟩ = some (.int .i64 x.prev.mod) := (by simp [World.cell?, HK.out]); have k11 : wc.cell? ⟨w.heap.size, 11, none⟩ = some (.int .i64 x.prev.version) := (by simp [World.cell?, HK.out]); have k12 : wc.cell? ⟨w.heap.size, 12, none⟩ = some (.int .i64 x.prev.lease) := (by simp [World.cell?, HK.out]); clear a hF1
  go_wp2_with fail; obtain ⟨i0, hi0, hz0, hz1, hz2⟩ := info_parts info73; have hnew := zax wc.drew [.int .i64 x.kind, .string x.kv.key, .string x.kv.value, .int .i64 x.kv.create, .int .i64 x.kv.mod, .int .i64 x.kv.version, .int .i64 x.kv.lease, .string x.prev.key, .string x.prev.value, .int .i64 x.prev.create, .int .i64 x.prev.mod, .int .i64 x.prev.version, .int .i64 x.prev.lease] 101 (0, 0); have hel : (doneS S x).events.length ≤ 1099511627 := (by rw [zex]; exact Nat.le_trans hok.ev hn); have hes : (Value.slice ea (doneS S x).events.length ecap).ownBlock ≠ some s := HA.out.ds.2.1; have hevl := HA.out.events.lt
  go_region_law (refine zfv rfl _ _ 28 rfl 101 i0 _ 13 136 Tryz.underlying28 hi0 hz0 hz1 hz2 rfl (by decide) _ (doneS S x).events rfl (HA.out.events.fr0 ((Fr.refl No wc).drew.alloc _)) wc.heap.size 1 x rfl hnew rfl (by intro u hu; simp [evC, kvC] at hu; rcases hu with rfl | rfl | rfl | rfl | rfl | rfl | rfl | rfl | rfl | rfl | rfl | rfl | rfl <;> rfl) (by unfold maxLen; omega) (by omega) ?_; intro g1 o' cap w4 hs4 hg4 hb4 hlt4; have hf4 : Fr (fun k => (Value.slice ea (doneS S x).events.length ecap).ownBlock = some k) wc w4 := ((Fr.refl _ wc).drew.alloc _).grown hg4 (fun k hk => .inl hk); have e5 := hf4.cell c5 hes; have ef := hf4.free c5 f5 hes; have HS4 := H_ hs4; have HB4 := H_ hb4; have HF4 := H_ hf4; clear hs4 hg4 hb4 hf4)
  all_goals
   go_wp2; refine bodyPost_end (results_none rfl _ _ _) rfl ?_
   have hgs : g1 ≠ s ∧ ((Value.slice ea (doneS S x).events.length ecap).ownBlock = some g1 ∨ wc.heap.size ≤ g1) := by
    rcases HB4.out with h | h
    · exact ⟨fun e => hes (e ▸ h), .inl h⟩
    have h' : g1 = wc.heap.size + 1 := by simpa using h
    exact ⟨by omega, .inr (by omega)⟩
   have hfE : Fr (fun b => b = s ∨ (Value.slice ea (doneS S x).events.length ecap).ownBlock = some b) wc (w4.setCell ⟨s, 5, none⟩ (.slice (some ⟨g1, o', none⟩) ((doneS S x).events.length + 1) cap)) :=
    (HF4.out.mono fun _ _ h => .inr h).setCell (p := ⟨s, 5, none⟩) (.inl (.inl rfl)) _
   have ho := (HA.out.obj.fr HF4.out hes).set 5 (.slice (some ⟨g1, o', none⟩) ((doneS S x).events.length + 1) cap); have he := HS4.out.other ⟨s, 5, none⟩ (.slice (some ⟨g1, o', none⟩) ((doneS S x).events.length + 1) cap) (by simp [Value.ownBlock]; exact hgs.1)
   have hfin := HA.out.setEvents hT hfE ho he (fun b hb => by
    obtain rfl : g1 = b := by simpa [Value.ownBlock] using hb
    exact hgs.2)
   have hwc := HF.out.size; refine ⟨⟨_, rfl⟩, _, ⟨t, p, _, hp, FT, FH, hfin, fun _ => Iff.rfl⟩, ?_, ?_⟩
   · refine HF.out.trans hfE fun b hb e => ?_
     have h1 : F1 b := (HF1.out b).2 (by
      rcases e with e | e
      · exact .inl e
      exact .inr (.inr (.inr (.inl e))))
     rcases HN.out b h1 with h | h
     · exact h
     omega
   have old : ∀ b, F1 b → F b ∨ w.heap.size ≤ b := fun b hb => by
    rcases HN.out b hb with h | h
    · exact .inl h
    exact .inr (by omega)
   rintro b (e | e | e | e | e)
   · exact old b ((HF1.out b).2 (.inl e))
   · exact old b ((HF1.out b).2 (.inr (.inl e)))
   · exact old b ((HF1.out b).2 (.inr (.inr (.inl e))))
   · obtain rfl : g1 = b := by simpa [Value.ownBlock] using e
     rcases hgs.2 with h | h
     · exact old _ ((HF1.out _).2 (.inr (.inr (.inr (.inl h)))))
     exact .inr (by omega)
   exact old b ((HF1.out b).2 (.inr (.inr (.inr (.inr e)))))
def toOf (key end_ : ByteArray) : ByteArray := if end_.toList.isEmpty then key ++ ⟨#[0]⟩ else if end_.toList == [0] then ByteArray.empty else end_
def oneL (S : St) (rev : Int) (p : ByteArray × Int) : Option Kv := match S.past p.2 with
 | some H => if (hadH H rev).2 then some (hadH H rev).1 else none
 | none => none
def zan (S : St) (R : Pairs) (rev : Int) : List Kv := R.filterMap (oneL S rev)
def zay (S : St) (key end_ : ByteArray) (rev : Int) : List Kv := zan S (rangeT S.T key (toOf key end_)) rev
theorem info57 : (Tryz.prog.info? 99).map (fun i => (i.zero, i.size, i.bytes)) = some (some (.agg #[.string ByteArray.empty, .string ByteArray.empty, .int .i64 0, .int .i64 0, .int .i64 0, .int .i64 0]), 6, 64) := by kernel_rfl
theorem zgn {T : Pairs} {a b : ByteArray} {p : ByteArray × Int} (h : p ∈ rangeT T a b) : p ∈ T := (List.mem_filter.1 h).1
set_option maxHeartbeats 4000000 in
theorem zgg {TA : zao} {N : Nat} (hT : TreeOk TA N) {n : Nat} (hn : n ≤ 1099511627) (w : World) (s : Nat) (S : St) (F : Nat → Prop) (hS : zaj TA w s S F) (hok : StOk n S) (hN : S.T.length ≤ 1099511627) (key end_ : ByteArray) (rev : Int) (hks : key.size ≤ 1099511627776) :
 Calls Tryz.prog 88 #[.pointer (some ⟨s, 0, none⟩), .string key, .string end_, .int .i64 rev] w fun e w' => ∃ v, e = .returned v ∧ SlF w' 99 6 kvC v (zay S key end_ rev) ∧ Fr No w w' ∧ (∀ b, v.ownBlock = some b → w.heap.size ≤ b) := by
 have hhad := fun W hW at_ H hH => zib hT hn W s S F hW hok at_ rev H hH; have hSA := H_ hS; obtain ⟨t, p, ev, hp, FT, FH, a, hF⟩ := hS; have c0 := a.obj.cell 0 rfl; have l1 := a.obj.lt; have HT := H_ a.tree; have HLen := H_ fun W hW => hT.len (w := W) (t := t) (T := S.T) (F := FT) hW; have hrange := fun W to1 hW => hT.range (w := W) (t := t) (T := S.T) (F := FT) key to1 hW; have HH := H_ hhad; have HOk := H_ hok.id; obtain ⟨i0, hi0, hz0, hz1, hz2⟩ := info_parts info57; have hlenR : ∀ to1, (rangeT S.T key to1).length ≤ S.T.length := fun to1 => List.length_filter_le _ _
 have hto : (end_.toList.isEmpty = true ∧ toOf key end_ = key ++ ⟨#[0]⟩) ∨ (end_.toList.isEmpty = false ∧ (end_.toList == [0]) = true ∧ toOf key end_ = ⟨#[]⟩) ∨ (end_.toList.isEmpty = false ∧ (end_.toList == [0]) = false ∧ toOf key end_ = end_) := by
  unfold toOf; have he : ByteArray.empty = ⟨#[]⟩ := rfl; rw [he]; cases h1 : end_.toList.isEmpty
  · cases h2 : (end_.toList == [0])
    · exact .inr (.inr ⟨rfl, rfl, by simp⟩)
    exact .inr (.inl ⟨rfl, rfl, by simp⟩)
  exact .inl ⟨rfl, by simp⟩
 have hks' : ¬ 9223372036854775807 < key.size + 1 := by omega
 clear a hhad hks; have HF0 : Fr No w w := Fr.refl No w; have HX : ∃ X, toOf key end_ = X ∧ ((end_.toList.isEmpty = true ∧ X = key ++ ⟨#[0]⟩) ∨ (end_.toList.isEmpty = false ∧ (end_.toList == [0]) = true ∧ X = ⟨#[]⟩) ∨ (end_.toList.isEmpty = false ∧ (end_.toList == [0]) = false ∧ X = end_)) := ⟨_, rfl, hto⟩; obtain ⟨X, hX, hto⟩ := HX; unfold zay; rw [hX]; have hRl := hlenR X; have hRm : ∀ q ∈ rangeT S.T key X, q ∈ S.T := fun q hq => zgn hq; have hrX := fun W hW => hrange W X hW; generalize rangeT S.T key X = R at hRl hRm hrX ⊢
 have HRM := H_ hRm; have HRange := H_ hrX; clear hlenR hrange hRm hrX hX; rcases hto with ⟨h1, hX2⟩ | ⟨h1, h2, hX2⟩ | ⟨h1, h2, hX2⟩
 all_goals
  have HX2 := H_ hX2; clear hX2; go_enter Tryz.func88, Tryz.ntmps88; go_wp2_with fail; have hS0 : w.drew.cell? ⟨s, 0, none⟩ = some (.pointer (some ⟨t, 0, none⟩)) := c0
  go_region_held (fun W => W.cell? ⟨s, 0, none⟩ = some (.pointer (some ⟨t, 0, none⟩)))
   (first | assumption | exact hf2.cell0 c0)
   (first
     | (go_at_call 61; refine (HLen.out _ (hT.fr HT.out (Fr.refl No w).drew (fun _ _ s => s))).mono ?_; rintro e w' ⟨rfl, rfl⟩)
     | (go_at_call 60; (first | rw [← HX2.out] | skip); refine (HRange.out _ (hT.fr HT.out (Fr.refl No w).drew (fun _ _ s => s))).mono ?_; rintro e w2 ⟨v, rfl, hv, hf1, hvn⟩
        have hf2 : Fr No w w2 := (Fr.refl No w).drew.trans0 hf1; obtain ⟨va, vcap, rfl, hc1, hc2, hva⟩ := hv.shape; have HV := H_ hv; have HVA := H_ hva; clear hv hva))
  clear hS0; have l2 := hf2.size; go_wp2_with fail
  go_loopg [36, 10] R.length (fun g s36 s10 wr => ∃ (i : Nat) (o : Value), s36 = .int .i64 i ∧ s10 = o ∧ i + g = R.length ∧ Hid (SlF wr 99 6 kvC o (zan S (R.take i) rev)) ∧ Fr No w wr ∧ w2.heap.size ≤ wr.heap.size ∧ Hid (∀ b, o.ownBlock = some b → w2.heap.size ≤ b) ∧ Hid (Fr No w2 wr))
  case atStart => exact ⟨0, _, rfl, rfl, by simp, H_ (SlF.nil _ _ _ _), hf2, Nat.le_refl _, H_ (by simp [Value.ownBlock]), H_ (Fr.refl _ _)⟩
  case round =>
   obtain ⟨i, o, rfl, rfl, hi, HO, hfr, hsz, HOn, HF2⟩ := hrel
   cases gk with
   | zero =>
     have hil : ¬ (i : Int) < (R.length : Int) := (by omega); go_wp2; go_ret; have e1 := HO.out; rw [List.take_of_length_le (by omega)] at e1; exact ⟨_, rfl, e1, hfr, fun b hb => by have := HOn.out b hb; omega⟩
   | succ g =>
     have hil : (i : Int) < (R.length : Int) := (by omega); obtain ⟨q, hq⟩ : ∃ q, R[i]? = some q := ⟨_, List.getElem?_eq_getElem (by omega)⟩; obtain ⟨H, hH⟩ := HOk.out q (HRM.out q (List.mem_of_getElem? hq)); obtain ⟨gb, go, rfl⟩ := HVA.out (by omega); have hVr := HV.out.fr0 HF2.out; have x0 := hVr.cell0 zae i hq rfl; have x1 := hVr.cell zae i 1 hq rfl; have hone : oneL S rev q = if (hadH H rev).2 then some (hadH H rev).1 else none := (by unfold oneL; rw [hH])
     have hstep : zan S (R.take (i + 1)) rev = zan S (R.take i) rev ++ (oneL S rev q).toList := by
      unfold zan; rw [List.take_add_one, hq, List.filterMap_append]; cases h : oneL S rev q <;> simp [h]
     have HST := H_ hstep; have HON := H_ hone; have HPH := H_ hH; have HQ := H_ hq; clear hstep hone hH hq hVr; rcases hr : hadH H rev with ⟨⟨r1, r2, r3, r4, r5, r6⟩, rb⟩
     rw [hr] at HON; have HR := H_ hr; clear hr; obtain ⟨o1, o2, rfl, ho1, ho2, ho3⟩ := HO.out.shape; clear ho3; have hob : (zan S (R.take i) rev).length ≤ R.length := Nat.le_trans (List.length_filterMap_le _ _) (by simp; omega); have hi5 : 0 ≤ (i : Int) + 1 := (by omega); cases rb
     · have HE : Hid (zan S (R.take (i + 1)) rev = zan S (R.take i) rev) := H_ (by rw [HST.out, HON.out]; simp)
       clear HST HON
       go_wp2_with (go_at_call 62; refine (HH.out _ (hSA.out.fr0 hT (hfr.alloc _)) q.2 H HPH.out).mono ?_; rintro e w3 ⟨rfl, hf3⟩
                    have hf4 : Fr No wr w3 := ((Fr.refl No wr).alloc _).trans0 hf3; rw [HR.out]; unfold zch kvV)
       go_roundg g
       case rel =>
        have hf5 : Fr No wr (w3.alloc (Obj.cells #[Value.string r1, Value.string r2, Value.int .i64 r3, Value.int .i64 r4, Value.int .i64 r5, Value.int .i64 r6] 99)) := hf4.alloc _; exact ⟨i + 1, _, by go_num, rfl, by omega, H_ (by rw [HE.out]; exact HO.out.fr0 hf5), hfr.trans0 hf5, Nat.le_trans hsz hf5.size, HOn, H_ (HF2.out.trans0 hf5)⟩
       case measure => omega
     have HE : Hid (zan S (R.take (i + 1)) rev = zan S (R.take i) rev ++ [⟨r1, r2, r3, r4, r5, r6⟩]) := H_ (by rw [HST.out, HON.out]; simp)
     clear HST HON
     go_wp2_with (first
      | (go_at_call 62; refine (HH.out _ (hSA.out.fr0 hT (hfr.alloc _)) q.2 H HPH.out).mono ?_; rintro e w3 ⟨rfl, hf3⟩
         have hf4 : Fr No wr w3 := ((Fr.refl No wr).alloc _).trans0 hf3; have hnew := zax (w3.alloc (.cells [Value.string r1, .string r2, .int .i64 r3, .int .i64 r4, .int .i64 r5, .int .i64 r6].toArray 99)) [Value.string r1, .string r2, .int .i64 r3, .int .i64 r4, .int .i64 r5, .int .i64 r6] 99 (0, 0); rw [HR.out]; unfold zch kvV)
      | (at_builtin; refine zap rfl _ _ 27 rfl 99 i0 _ 6 64 Tryz.underlying27 hi0 hz0 hz1 hz2 rfl (by decide) _ (zan S (R.take i) rev) rfl (((HO.out.fr0 hf4).alloc _).alloc _) (w3.heap.size + 1) 1 (⟨r1, r2, r3, r4, r5, r6⟩ : Kv) rfl (by simpa [kvC] using hnew) rfl ?c1 ?c2 ?c3 ?_))
     case c1 => intro u hu; simp [kvC] at hu; rcases hu with rfl | rfl | rfl | rfl | rfl | rfl <;> rfl
     case c2 => unfold maxLen; omega
     case c3 => omega
     intro g1 o' cap w4 hs4 hg4 hb4 hlt4; have hlen4 : (zan S (R.take i) rev ++ [(⟨r1, r2, r3, r4, r5, r6⟩ : Kv)]).length = (zan S (R.take i) rev).length + 1 := (by simp); have hfA : Fr No w w4 := (((hfr.trans0 hf4).alloc _).alloc _).grown hg4 fun k hk => .inr (by have := HOn.out k hk; omega); have hfB : Fr No w2 w4 := (((HF2.out.trans0 hf4).alloc _).alloc _).grown hg4 fun k hk => .inr (HOn.out k hk)
     have hg1 : w2.heap.size ≤ g1 := by
      rcases hb4 with e | e
      · exact HOn.out _ e
      have := hf4.size; try simp at e
      omega
     have H4 := H_ hs4; have HL4 := H_ hlen4; clear hs4 hlen4 hg4 hb4 hnew; go_wp2; go_roundg g
     case rel =>
      exact ⟨i + 1, _, by go_num, rfl, by omega, H_ (by rw [HE.out]; exact H4.out), hfA, hfB.size, H_ (fun b hb => by simp [Value.ownBlock] at hb; omega), H_ hfB⟩
     case measure => omega
structure LayR (TA : zao) (w : World) (s sb vb ab : Nat) (S : St) (F : Nat → Prop) (ev : Value) (E : List Ev) (kind : Int) (kv : Value) (L : List Kv) (count : Int) (more : Bool) : Prop where
 store : zaj TA w s S F
 box : Has w sb [.pointer (some ⟨s, 0, none⟩)]
 evs : Has w vb [ev]
 evl : SlF w 101 13 evC ev E
 ans : Has w ab [.int .i64 kind, kv, .int .i64 count, .bool more]
 kvl : SlF w 99 6 kvC kv L
 f1 : ¬ F sb
 f2 : ¬ F vb
 f3 : ¬ F ab
 f4 : ∀ b, ev.ownBlock = some b → ¬ F b
 f5 : ∀ b, kv.ownBlock = some b → ¬ F b
 n1 : sb ≠ vb
 n2 : sb ≠ ab
 n3 : vb ≠ ab
 e1 : ev.ownBlock ≠ some sb
 e2 : ev.ownBlock ≠ some vb
 e3 : ev.ownBlock ≠ some ab
 k1 : kv.ownBlock ≠ some sb
 k2 : kv.ownBlock ≠ some vb
 k3 : kv.ownBlock ≠ some ab
 ek : ∀ b, ev.ownBlock = some b → kv.ownBlock ≠ some b
def told (x : Ev) : List Kv := if 0 < x.prev.version then [x.prev] else []
set_option maxHeartbeats 4000000 in
theorem zmc {TA : zao} {N : Nat} (hT : TreeOk TA N) {n : Nat} (hn : n ≤ 1099511627) (w : World) (s sb vb ab : Nat) (S : St) (F : Nat → Prop) (ev : Value) (E : List Ev) (kind : Int) (kv : Value) (L : List Kv) (count : Int) (more : Bool)
 (a : LayR TA w s sb vb ab S F ev E kind kv L count more) (hok : StOk n S) (x : Ev) (hx : DoOk N S x) (hE : E.length ≤ 1099511627) (hL : L.length ≤ 1099511627) (hc0 : 0 ≤ count) (hc1 : count ≤ top) :
 Calls Tryz.prog 86 #[.pointer (some ⟨ab, 0, none⟩), evV x, .pointer (some ⟨sb, 0, none⟩), .pointer (some ⟨vb, 0, none⟩)] w fun e w' => (∃ v, e = .returned v) ∧
  ∃ F' ev' kv', LayR TA w' s sb vb ab (doS S x) F' ev' (E ++ [x]) kind kv' (L ++ told x) (count + (told x).length) more ∧
   Fr (fun b => F b ∨ b = vb ∨ b = ab ∨ ev.ownBlock = some b ∨ kv.ownBlock = some b) w w' ∧ (∀ b, F' b → F b ∨ w.heap.size ≤ b) ∧ (∀ b, ev'.ownBlock = some b → ev.ownBlock = some b ∨ w.heap.size ≤ b) ∧
   (∀ b, kv'.ownBlock = some b → kv.ownBlock = some b ∨ w.heap.size ≤ b) := by
 have HA := H_ a; have HX := H_ hx; have hls := a.store.lt hT; have c0 := a.box.cell 0 rfl; have hbx := zad w (Obj.cells #[.int .i64 x.kind, .string x.kv.key, .string x.kv.value, .int .i64 x.kv.create, .int .i64 x.kv.mod, .int .i64 x.kv.version, .int .i64 x.kv.lease, .string x.prev.key, .string x.prev.value, .int .i64 x.prev.create, .int .i64 x.prev.mod, .int .i64 x.prev.version, .int .i64 x.prev.lease] 101) _ rfl; have hf0 : Fr No w (w.alloc (Obj.cells #[.int .i64 x.kind, .string x.kv.key, .string x.kv.value, .int .i64 x.kv.create, .int .i64 x.kv.mod, .int .i64 x.kv.version, .int .i64 x.kv.lease, .string x.prev.key, .string x.prev.value, .int .i64 x.prev.create, .int .i64 x.prev.mod, .int .i64 x.prev.version, .int .i64 x.prev.lease] 101)) := (Fr.refl No w).alloc _; have lsb := a.box.lt; have lvb := a.evs.lt; have lab := a.ans.lt
 have nbx : ¬ F w.heap.size := fun h => by have := hls _ h; omega
 obtain ⟨i0, hi0, hz0, hz1, hz2⟩ := info_parts info73; obtain ⟨j0, hj0, hy0, hy1, hy2⟩ := info_parts info57; unfold top at hc1; unfold evV; clear a hx; go_enter Tryz.func86, Tryz.ntmps86
 go_wp2_with (first
  | (go_at_call 68; refine (zpy hT hn _ s S F (HA.out.store.fr0 hT hf0) hok x HX.out).mono ?_; rintro e w1 ⟨⟨v, rfl⟩, F1, hs1, hf1, hn1⟩
     have hbx1 := hf1.heap hbx nbx; have k0 : w1.cell? ⟨w.heap.size, 0, none⟩ = some (.int .i64 x.kind) := (by simp [World.cell?, hbx1]); have k1 : w1.cell? ⟨w.heap.size, 1, none⟩ = some (.string x.kv.key) := (by simp [World.cell?, hbx1]); have k2 : w1.cell? ⟨w.heap.size, 2, none⟩ = some (.string x.kv.value) := (by simp [World.cell?, hbx1]); have k3 : w1.cell? ⟨w.heap.size, 3, none⟩ = some (.int .i64 x.kv.create) := (by simp [World.cell?, hbx1]); have k4 : w1.cell? ⟨w.heap.size, 4, none⟩ = some (.int .i64 x.kv.mod) := (by simp [World.cell?, hbx1]); have k5 : w1.cell? ⟨w.heap.size, 5, none⟩ = some (.int .i64 x.kv.version) := (by simp [World.cell?, hbx1]); have k6 : w1.cell? ⟨w.heap.size, 6, none⟩ = some (.int .i64 x.kv.lease) := (by simp [World.cell?, hbx1]); have k7 : w1.cell? ⟨w.heap.size, 7, none⟩ = some (.string x.prev.key) := (by simp [World.cell?, hbx1])
     have k8 : w1.cell? ⟨w.heap.size, 8, none⟩ = some (.string x.prev.value) := (by simp [World.cell?, hbx1]); have k9 : w1.cell? ⟨w.heap.size, 9, none⟩ = some (.int .i64 x.prev.create) := (by simp [World.cell?, hbx1]); have k10 : w1.cell? ⟨w.heap.size, 10, none⟩ = some (.int .i64 x.prev.mod) := (by simp [World.cell?, hbx1]); have k11 : w1.cell? ⟨w.heap.size, 11, none⟩ = some (.int .i64 x.prev.version) := (by simp [World.cell?, hbx1]); have k12 : w1.cell? ⟨w.heap.size, 12, none⟩ = some (.int .i64 x.prev.lease) := (by simp [World.cell?, hbx1]); have v1 : w1.cell? ⟨vb, 0, none⟩ = some ev := hf1.cell (hf0.cell0 (HA.out.evs.cell 0 rfl)) HA.out.f2
     have hnew := zax w1 [.int .i64 x.kind, .string x.kv.key, .string x.kv.value, .int .i64 x.kv.create, .int .i64 x.kv.mod, .int .i64 x.kv.version, .int .i64 x.kv.lease, .string x.prev.key, .string x.prev.value, .int .i64 x.prev.create, .int .i64 x.prev.mod, .int .i64 x.prev.version, .int .i64 x.prev.lease] 101 (0, 0))
  | (at_builtin; refine zap rfl _ _ 28 rfl 101 i0 _ 13 136 Tryz.underlying28 hi0 hz0 hz1 hz2 rfl (by decide) ev E rfl (((HA.out.evl.fr0 hf0).fr hf1 HA.out.f4).alloc _) w1.heap.size 1 x rfl hnew rfl ?c1 ?c2 ?c3 ?_))
 case c1 => intro u hu; simp [evC, kvC] at hu; rcases hu with rfl | rfl | rfl | rfl | rfl | rfl | rfl | rfl | rfl | rfl | rfl | rfl | rfl <;> rfl
 case c2 => unfold maxLen; omega
 case c3 => omega
 intro g1 o1 cap1 w2 hs2 hg2 hb2 hlt2; have hsz1 : w.heap.size + 1 ≤ w1.heap.size := by have := zaa hbx1; omega
 have hf2 : Fr (fun b => ev.ownBlock = some b) w1 w2 := ((Fr.refl _ w1).alloc _).grown hg2 fun k hk => .inl hk; have hevl := HA.out.evl.lt; have hkvl := HA.out.kvl.lt
 have hg1 : ev.ownBlock = some g1 ∨ w1.heap.size ≤ g1 := by
  rcases hb2 with h | h
  · exact .inl h
  right; have h' : g1 = w1.heap.size + 1 := by simpa using h
  omega
 have nev : ev.ownBlock ≠ some w.heap.size := fun h => by have := hevl _ h; omega
 have v2 := hf2.cell v1 HA.out.e2; have v2f : w2.frozen? ⟨vb, 0, none⟩ = false := hf2.free v1 (hf1.free (hf0.cell0 (HA.out.evs.cell 0 rfl)) (hf0.free0 (HA.out.evs.cell 0 rfl) (HA.out.evs.free 0)) HA.out.f2) HA.out.e2; have p11 := hf2.cell k11 nev; have hbx2 := hf2.heap hbx1 nev; have hF1l := hs1.lt hT; have HS1 := H_ hs1; have HF1 := H_ hf1; have HN1 := H_ hn1; have HS2 := H_ hs2; have HF2 := H_ hf2; have HB2 := H_ hbx2; have nvb : vb ≠ w.heap.size := by omega
 clear hs1 hf1 hn1 hs2 hg2 hb2 hf2 hbx1 hbx k0 k1 k2 k3 k4 k5 k6 k7 k8 k9 k10 k11 k12 v1 hnew hbx2; go_upto_if 16 with fail; have hsz2 : w1.heap.size ≤ w2.heap.size := HF2.out.size
 have nF1 : ∀ b, b < w.heap.size + 1 → ¬ F b → ¬ F1 b := fun b hb hF h => by
  rcases HN1.out b h with h | h
  · exact hF h
  simp at h; omega
 have hf3 : Fr (fun b => b = vb) w2 (w2.setCell ⟨vb, 0, none⟩ (.slice (some ⟨g1, o1, none⟩) (E.length + 1) cap1)) := (Fr.refl _ w2).setAt 0 _; have hw1 : Fr F w w1 := (hf0.mono fun _ _ s => s.elim).trans HF1.out fun _ _ h => h; have hw2 : Fr (fun b => F b ∨ ev.ownBlock = some b) w w2 := (hw1.mono fun _ _ h => .inl h).trans HF2.out fun _ _ h => .inr h
 have hfT : Fr (fun b => F b ∨ b = vb ∨ ev.ownBlock = some b) w (w2.setCell ⟨vb, 0, none⟩ (.slice (some ⟨g1, o1, none⟩) (E.length + 1) cap1)) :=
  (hw2.mono fun b _ h => h.elim .inl fun h => .inr (.inr h)).trans hf3 fun b _ h => .inr (.inl h)
 have hbase : LayR TA (w2.setCell ⟨vb, 0, none⟩ (.slice (some ⟨g1, o1, none⟩) (E.length + 1) cap1)) s sb vb ab (doS S x) F1 (.slice (some ⟨g1, o1, none⟩) (E.length + 1) cap1) (E ++ [x]) kind kv L count more := {
  store := (HS1.out.fr hT HF2.out fun b hb e => nF1 b (by have := hevl b e; omega) (HA.out.f4 b e) hb).fr hT hf3 fun b hb e => nF1 vb (by omega) HA.out.f2 (by have e' : b = vb := e; rw [← e']; exact hb)
  box := HA.out.box.fr hfT fun h => h.elim HA.out.f1 fun h => h.elim HA.out.n1 HA.out.e1
  evs := (HA.out.evs.fr hw2 fun h => h.elim HA.out.f2 HA.out.e2).set 0 _
  evl := HS2.out.other ⟨vb, 0, none⟩ _ (by
   simp only [Value.ownBlock, ne_eq, Option.some.injEq]; rintro rfl; rcases hg1 with h | h
   · exact HA.out.e2 h
   omega)
  ans := HA.out.ans.fr hfT fun h => h.elim HA.out.f3 fun h => h.elim (fun h => HA.out.n3 h.symm) HA.out.e3
  kvl := HA.out.kvl.fr hfT fun b hb h => by
   rcases h with h | h | h
   · exact HA.out.f5 b hb h
   · exact HA.out.k2 (h ▸ hb)
   exact HA.out.ek b h hb
  f1 := nF1 sb (by omega) HA.out.f1
  f2 := nF1 vb (by omega) HA.out.f2
  f3 := nF1 ab (by omega) HA.out.f3
  f4 := fun b hb h => by
   obtain rfl : g1 = b := by simpa [Value.ownBlock] using hb
   rcases hg1 with h1 | h1
   · exact nF1 g1 (by have := hevl g1 h1; omega) (HA.out.f4 g1 h1) h
   have := hF1l g1 h; omega
  f5 := fun b hb h => nF1 b (by have := hkvl b hb; omega) (HA.out.f5 b hb) h
  n1 := HA.out.n1
  n2 := HA.out.n2
  n3 := HA.out.n3
  e1 := by
   simp only [Value.ownBlock, ne_eq, Option.some.injEq]; rintro rfl; rcases hg1 with h | h
   · exact HA.out.e1 h
   omega
  e2 := by
   simp only [Value.ownBlock, ne_eq, Option.some.injEq]; rintro rfl; rcases hg1 with h | h
   · exact HA.out.e2 h
   omega
  e3 := by
   simp only [Value.ownBlock, ne_eq, Option.some.injEq]; rintro rfl; rcases hg1 with h | h
   · exact HA.out.e3 h
   omega
  k1 := HA.out.k1
  k2 := HA.out.k2
  k3 := HA.out.k3
  ek := fun b hb h => by
   obtain rfl : g1 = b := by simpa [Value.ownBlock] using hb
   rcases hg1 with h1 | h1
   · exact HA.out.ek g1 h1 h
   have := hkvl g1 h; omega }
 have hB3 := hf3.heap HB2.out (fun e => nvb e.symm); have hsz3 : (w2.setCell ⟨vb, 0, none⟩ (.slice (some ⟨g1, o1, none⟩) (E.length + 1) cap1)).heap.size = w2.heap.size := by simp
 have hsz4 : w1.heap.size ≤ (w2.setCell ⟨vb, 0, none⟩ (.slice (some ⟨g1, o1, none⟩) (E.length + 1) cap1)).heap.size := by omega
 clear hsz3; generalize w2.setCell ⟨vb, 0, none⟩ (.slice (some ⟨g1, o1, none⟩) (E.length + 1) cap1) = W3 at *; have HBASE := H_ hbase; have HFT := H_ hfT; have HB3 := H_ hB3; clear hbase hfT hB3 hf3 hw1 hw2 p11 v2 v2f
 have hF1n : ∀ b, F1 b → F b ∨ w.heap.size ≤ b := fun b hb => by
  rcases HN1.out b hb with h | h
  · exact .inl h
  simp at h; exact .inr (by omega)
 have hevn : ∀ b, (Value.slice (some ⟨g1, o1, none⟩) (E.length + 1) cap1).ownBlock = some b → ev.ownBlock = some b ∨ w.heap.size ≤ b := fun b hb => by
  obtain rfl : g1 = b := by simpa [Value.ownBlock] using hb
  rcases hg1 with h | h
  · exact .inl h
  exact .inr (by omega)
 by_cases hv : 0 < x.prev.version
 · have htold : told x = [x.prev] := by unfold told; rw [if_pos hv]
   have a1 := HBASE.out.ans.cell 1 rfl; have a2 := HBASE.out.ans.cell 2 rfl; have f1 := HBASE.out.ans.free 1; have f2 := HBASE.out.ans.free 2; have hkvl3 := HBASE.out.kvl.lt; have hl3 := HBASE.out.ans.lt; have hlb := zaa HB3.out; have q7 : W3.cell? ⟨w.heap.size, 7, none⟩ = some (.string x.prev.key) := (by simp [World.cell?, HB3.out]); have q8 : W3.cell? ⟨w.heap.size, 8, none⟩ = some (.string x.prev.value) := (by simp [World.cell?, HB3.out]); have q9 : W3.cell? ⟨w.heap.size, 9, none⟩ = some (.int .i64 x.prev.create) := (by simp [World.cell?, HB3.out]); have q10 : W3.cell? ⟨w.heap.size, 10, none⟩ = some (.int .i64 x.prev.mod) := (by simp [World.cell?, HB3.out]); have q11 : W3.cell? ⟨w.heap.size, 11, none⟩ = some (.int .i64 x.prev.version) := (by simp [World.cell?, HB3.out]); have q12 : W3.cell? ⟨w.heap.size, 12, none⟩ = some (.int .i64 x.prev.lease) := (by simp [World.cell?, HB3.out])
   have hnew := zax W3.drew [.string x.prev.key, .string x.prev.value, .int .i64 x.prev.create, .int .i64 x.prev.mod, .int .i64 x.prev.version, .int .i64 x.prev.lease] 99 (0, 0); have nk3 := HBASE.out.k3; have HT := H_ htold; clear htold; go_wp2_with fail
   go_region_law (refine zfv rfl _ _ 27 rfl 99 j0 _ 6 64 Tryz.underlying27 hj0 hy0 hy1 hy2 rfl (by decide) _ L rfl (HBASE.out.kvl.fr0 ((Fr.refl No W3).drew.alloc _)) W3.heap.size 1 x.prev rfl hnew rfl (by intro u hu; simp [kvC] at hu; rcases hu with rfl | rfl | rfl | rfl | rfl | rfl <;> rfl) (by unfold maxLen; omega) (by omega) ?_; intro g2 o2 cap2 w4 hs4 hg4 hb4 hlt4; have hf4 : Fr (fun k => kv.ownBlock = some k) W3 w4 := ((Fr.refl _ W3).drew.alloc _).grown hg4 (fun k hk => .inl hk); have b1 := hf4.cell a1 nk3; have bf := hf4.free a1 f1 nk3; have b2 := hf4.cell a2 nk3; have bf2 := hf4.free a2 f2 nk3; have HS4 := H_ hs4; have HB4 := H_ hb4; have HF4 := H_ hf4; clear hs4 hg4 hb4 hf4)
   all_goals
    have hcz : count + 1 ≤ 1099511627777 := (by omega); go_wp2; refine bodyPost_end (results_none rfl _ _ _) rfl ?_
    have hg2 : kv.ownBlock = some g2 ∨ W3.heap.size ≤ g2 := by
     rcases HB4.out with h | h
     · exact .inl h
     right
     have h' : g2 = W3.heap.size + 1 := (by simpa using h); omega
    have hFs : ∀ b, F1 b → b < W3.heap.size := fun b h => by have := hF1l b h; omega
    have hvl := HBASE.out.evs.lt; have hbl := HBASE.out.box.lt; have hell := HBASE.out.evl.lt
    have ng : ∀ b, kv.ownBlock ≠ some b → b < W3.heap.size → g2 ≠ b := by
     rintro b h1 h2 rfl; rcases hg2 with h | h
     · exact h1 h
     omega
    have hf6 : Fr (fun b => b = ab ∨ kv.ownBlock = some b) W3 ((w4.setCell ⟨ab, 1, none⟩ (.slice (some ⟨g2, o2, none⟩) (L.length + 1) cap2)).setCell ⟨ab, 2, none⟩ (.int .i64 (count + 1))) :=
     ((HF4.out.mono fun _ _ h => .inr h).setCell (p := ⟨ab, 1, none⟩) (.inl (.inl rfl)) _).setCell (p := ⟨ab, 2, none⟩) (.inl (.inl rfl)) _
    have hkn : ∀ b, (Value.slice (some ⟨g2, o2, none⟩) (L.length + 1) cap2).ownBlock = some b → kv.ownBlock = some b ∨ w.heap.size ≤ b := fun b hb => by
     obtain rfl : g2 = b := by simpa [Value.ownBlock] using hb
     rcases hg2 with h | h
     · exact .inl h
     exact .inr (by omega)
    refine ⟨⟨_, rfl⟩, F1, _, .slice (some ⟨g2, o2, none⟩) (L.length + 1) cap2, {
     store := HBASE.out.store.fr hT hf6 fun b hb h => h.elim (fun h => HBASE.out.f3 (h ▸ hb)) fun h => HBASE.out.f5 b h hb
     box := HBASE.out.box.fr hf6 fun h => h.elim HBASE.out.n2 HBASE.out.k1
     evs := HBASE.out.evs.fr hf6 fun h => h.elim HBASE.out.n3 HBASE.out.k2
     evl := HBASE.out.evl.fr hf6 fun b hb h => h.elim (fun h => HBASE.out.e3 (h ▸ hb)) fun h => HBASE.out.ek b hb h
     ans := by
      rw [HT.out]; exact ((HBASE.out.ans.fr HF4.out nk3).set 1 (.slice (some ⟨g2, o2, none⟩) (L.length + 1) cap2)).set 2 (.int .i64 (count + 1))
     kvl := by
      rw [HT.out]; have ng2 := ng ab nk3 hl3; exact (HS4.out.other ⟨ab, 1, none⟩ _ (by simp [Value.ownBlock]; exact ng2)).other ⟨ab, 2, none⟩ _ (by simp [Value.ownBlock]; exact ng2)
     f1 := HBASE.out.f1
     f2 := HBASE.out.f2
     f3 := HBASE.out.f3
     f4 := HBASE.out.f4
     f5 := fun b hb h => by
      obtain rfl : g2 = b := by simpa [Value.ownBlock] using hb
      rcases hg2 with h1 | h1
      · exact HBASE.out.f5 g2 h1 h
      have := hFs g2 h; omega
     n1 := HBASE.out.n1
     n2 := HBASE.out.n2
     n3 := HBASE.out.n3
     e1 := HBASE.out.e1
     e2 := HBASE.out.e2
     e3 := HBASE.out.e3
     k1 := by simp only [Value.ownBlock, ne_eq, Option.some.injEq]; exact ng sb HBASE.out.k1 hbl
     k2 := by simp only [Value.ownBlock, ne_eq, Option.some.injEq]; exact ng vb HBASE.out.k2 hvl
     k3 := by simp only [Value.ownBlock, ne_eq, Option.some.injEq]; exact ng ab HBASE.out.k3 hl3
     ek := fun b hb => by
      simp only [Value.ownBlock, ne_eq, Option.some.injEq]; exact ng b (HBASE.out.ek b hb) (hell b hb) }, ?_, hF1n, hevn, hkn⟩
    refine (HFT.out.mono fun b _ h => h.elim .inl fun h => h.elim (fun h => .inr (.inl h)) fun h => .inr (.inr (.inr (.inl h)))).trans hf6 fun b _ h => h.elim (fun h => .inr (.inr (.inl h))) fun h => .inr (.inr (.inr (.inr h)))
 have htold : told x = [] := by unfold told; rw [if_neg hv]
 have HT := H_ htold; clear htold; go_wp2; refine bodyPost_end (results_none rfl _ _ _) rfl ?_; exact ⟨⟨_, rfl⟩, F1, _, kv, by rw [HT.out]; simpa using HBASE.out, HFT.out.mono fun b _ h => h.elim .inl fun h => h.elim (fun h => .inr (.inl h)) fun h => .inr (.inr (.inr (.inl h))), hF1n, hevn, fun b hb => .inl hb⟩
def revOf (g : Rg) (rev : Int) : Int := if g.rev ≠ 0 then g.rev else rev
def allL (S : St) (g : Rg) (rev : Int) : List Kv := zay S g.key g.end_ (revOf g rev)
def moreB (S : St) (g : Rg) (rev : Int) : Bool := !g.count && decide (0 < g.limit) && decide (g.limit < (allL S g rev).length)
def cutL (g : Rg) (more : Bool) (l : List Kv) : List Kv := if more then l.take g.limit.toNat else l
def getL (S : St) (g : Rg) (rev : Int) : List Kv :=
 if g.count then [] else
  let l := cutL g (moreB S g rev) (if g.desc then (allL S g rev).reverse else allL S g rev)
  if g.keys then l.map fun x => { x with value := ByteArray.empty } else l
end Go.Proofs.YthljnnjpmdgkoaaGreat