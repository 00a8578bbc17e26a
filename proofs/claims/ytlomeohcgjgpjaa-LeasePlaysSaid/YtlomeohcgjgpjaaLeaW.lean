/- The table's Detach over the document's table. The condition: numbers of int's range, at most 1000 calls. -/
import Derived.Test.YtlomeohcgjgpjaaLeaV
namespace Go.Proofs.Ytlomeohcgjgpjaa
open Go Go.Proofs Go.RowKit
set_option maxRecDepth 100000

/-- Behind Detach, the leases' objects where they were. -/
def DetTo (n : Nat) (w w' : World) (t m o : Nat) (qv : Value) (hp : Int → Option Nat) (FL : Int → Nat → Prop) (T : LT) (key : ByteArray) : Prop :=
  ∃ FL' T', LeaR w' t m o qv hp FL' T' ∧ TOk n T' ∧ T'.view = detachR T.view key ∧ Fr (leaF t m o qv FL) w w' ∧ ∀ i b, FL' i b → FL i b
theorem Detach_nil (w : World) (key : ByteArray) : Calls Try.prog 35 #[.pointer none, .string key] w fun e w' => e = .returned (.int .i64 0) ∧ Fr No w w' := by
  have hf : Fr No w (w.alloc (.cells #[.string key] 9)) := (Fr.refl No w).alloc _
  have ho := fun W => Of_nil W key
  go_enter Try.func35, Try.ntmps35
  go_wp2_with (go_at_call 15; (with_reducible refine (ho _).mono ?_); rintro e w' ⟨rfl, rfl⟩)
  go_ret
  exact ⟨rfl, hf⟩
set_option maxHeartbeats 4000000 in
theorem Detach_calls {n : Nat} (hn : n ≤ 1000) {w : World} {t m o : Nat} {qv : Value} {hp : Int → Option Nat} {FL : Int → Nat → Prop} {T : LT} (a : LeaR w t m o qv hp FL T) (hT : TOk n T) (key : ByteArray) (hk : key.size ≤ maxLen) :
    Calls Try.prog 35 #[.pointer (some ⟨t, 0, none⟩), .string key] w fun e w' => e = .returned (.int .i64 (ofR T.view key)) ∧ DetTo n w w' t m o qv hp FL T key := by
  have hfa : Fr No w (w.alloc (.cells #[.string key] 9)) := (Fr.refl No w).alloc _
  have hba : (w.alloc (.cells #[.string key] 9)).heap[w.heap.size]? = some (.cells #[.string key] 9 (0, 0)) := alloc_at _ _ _ rfl
  have aW := a.fr hfa fun _ _ h => h
  have hofc := Of_calls aW key hk
  have hov : ofR T.view key = (ofL T.L key).getD 0 := ofL_view _ _ _
  have hb0 := cellAt hba 0 rfl
  have lb := heap_lt hba
  cases ho : ofL T.L key with
  | none =>
    rw [ho] at hov
    have hz : ofR T.view key = 0 := hov
    have hd := detachR_none hT.ok hz
    rw [hz] at hofc ⊢
    have HOC := Lib.hid hofc
    have HAW := Lib.hid aW
    have HT := Lib.hid hT
    have HD := Lib.hid hd
    have HFA := Lib.hid hfa
    clear hofc aW a hT hov ho hz hd hfa hba hk
    go_enter Try.func35, Try.ntmps35
    go_wp2_with (go_at_call 15; (with_reducible refine HOC.out.mono ?_); rintro e w' ⟨rfl, rfl⟩)
    go_ret
    exact ⟨rfl, FL, T, HAW.out, HT.out, HD.out.symm, HFA.out.mono fun _ _ h => h.elim, fun _ _ h => h⟩
  | some id =>
    rw [ho] at hov
    have hz : ofR T.view key = id := hov
    obtain ⟨x, hxm, hxk, hxi⟩ := ofR_some (R := T.view) (k := key) (by
      rw [hz]
      unfold ofL at ho
      obtain ⟨y, hy, rfl⟩ := Option.map_eq_some_iff.1 ho
      have := hT.num y (List.mem_of_find?_eq_some hy)
      omega)
    obtain ⟨⟨i0, l⟩, hlm, rfl⟩ := List.mem_map.1 hxm
    obtain rfl : i0 = id := by rw [← hz, hxi]; rfl
    have hl := getL_of hT.rise hlm
    dsimp only at hl
    obtain ⟨p, hpp, kv, hls, hFl⟩ := aW.ls i0 l hl
    have hkl := hT.ok.klen (viewL T.now (i0, l)) (List.mem_map_of_mem hlm)
    have hk1 : l.keys.length ≤ 1099511627 := by have := hkl.1; unfold viewL at this; dsimp only at this; omega
    have hnum := hT.num _ hlm
    dsimp only at hnum
    have hwf : (Lit.int .i64 i0).wf = true := wf64 (by omega) (by unfold maxI at hnum; omega)
    have hid0 : ¬ i0 = 0 := by omega
    have hdet := hT.detach ho
    have hofd := ofL_delK hT ho
    obtain ⟨va, vc, rfl, _, _, _⟩ := hls.keys.shape
    have hlook := look_hp (hp := hp) i0
    rw [hpp] at hlook
    have HK : Hid (((fun i => (hp i).map fun h => Value.pointer (some ⟨h, 0, none⟩)) i0).getD (.pointer none) = .pointer (some ⟨p, 0, none⟩)) := Lib.hid (by dsimp only; rw [hpp]; exact hlook)
    rw [hz] at hofc ⊢
    have HOC := Lib.hid hofc
    have HAW := Lib.hid aW
    have HDET := Lib.hid hdet
    have HOF := Lib.hid hofd
    have HFA := Lib.hid hfa
    have HLS := Lib.hid hls
    have HFL := Lib.hid hFl
    have HL := Lib.hid hl
    have HPP := Lib.hid hpp
    have HBA := Lib.hid hba
    have HW := Lib.hid hwf
    have HKK := Lib.hid hk
    have hwl : ∀ b, leaF t m o qv FL b → b < w.heap.size := a.lt
    have HWL := Lib.hid hwl
    clear hofc aW a hT hov ho hz hfa hba hdet hofd hls hFl hl hpp hwf hk hxm hxk hxi hlm hkl hnum hlook hwl
    go_enter Try.func35, Try.ntmps35
    go_upto_region 4 with (go_at_call 15; (with_reducible refine HOC.out.mono ?_); rintro e w' ⟨rfl, rfl⟩)
    generalize hWe : w.alloc (.cells #[.string key] 9) = W at *
    have c1 := HAW.out.obj.cell 1 rfl
    have ltW := HAW.out.obj.lt
    have nbt : ¬ w.heap.size = t := fun e => by have := HWL.out t (.inl rfl); omega
    clear hWe
    refine wp_region_still_tail 5 (by kernel_rfl) (by kernel_rfl) ?_
    simp only [List.take_succ_cons, List.take_zero, List.drop_succ_cons, List.drop_zero]
    change wpStill _ _ W.drew _ _ _
    repeat (refine wpStill_step (fun K hK => ?_); go_simp; refine hK _ ?_; clear hK K)
    refine wpStill_nil ?_
    change wpList _ _ _ _ _ W.drew
    have hofW := HAW.out.of.fr (Fr.refl No W).drew id
    refine wpList_dropS rfl _ _ 64 9 rfl 3 Try.underlying64 Try.underlying9 o _ rfl hofW key rfl HKK.out ?_
    intro w1 hm1 hf1 hsz1
    have hfo : Fr (fun b => b = o) W w1 := ((Fr.refl (fun b => b = o) W).drew).trans hf1 fun _ _ h => h
    have hown : ∀ b, (Value.slice va l.keys.length vc).ownBlock = some b → FL i0 b := fun b hb => (HFL.out b).2 (.inr hb)
    have hpo : FL i0 p := (HFL.out p).2 (.inl rfl)
    have hFo : ¬ FL i0 o := HAW.out.do'.2 i0
    have hwl0 : ∀ b, FL i0 b → b < w.heap.size := fun b hb => HWL.out b (.inr (.inr (.inr (.inr ⟨i0, hb⟩))))
    have hls1 := HLS.out.fr hfo (fun e => hFo (by rw [← show p = o from e]; exact hpo)) fun b hb e => hFo (by rw [← show b = o from e]; exact hown b hb)
    have hb1 := hfo.cell hb0 (fun e => by have := HWL.out o (.inr (.inr (.inl rfl))); have e' : w.heap.size = o := e; omega)
    have hm1' := HAW.out.map.fr hfo HAW.out.mo
    have c01 := (HAW.out.obj.fr hfo fun e => HAW.out.of.apart HAW.out.obj e.symm).cell 0 rfl
    have lt1 := Nat.lt_of_lt_of_le ltW hfo.size
    have cD := delK_calls w1 _ l.keys w.heap.size key hb1 hls1.keys (fun e => by have := hwl0 _ (hown _ e); omega) hk1
    have p3 := hls1.obj.cell 3 rfl
    have lp1 := hls1.obj.lt
    have HLS1 := Lib.hid hls1
    have HM1 := Lib.hid hm1'
    have HMS := Lib.hid hm1
    have HFO := Lib.hid hfo
    have HCD := Lib.hid cD
    have HOWN := Lib.hid hown
    have HPO := Lib.hid hpo
    have HWL0 := Lib.hid hwl0
    clear hfo hls1 hb1 hm1' cD hm1 hf1 hsz1 hown hpo hwl0 hb0 c1
    have hid1 : ((i0 : Int) == 0) = false := by simpa using hid0
    go_wp2_with (first
      | (at_lookup; refine wpList_look rfl _ _ 63 rfl 3 69 Try.underlying63 Try.underlying3 m _ rfl HM1.out i0 rfl HW.out _ (zero69 _) _ HK.out ?_)
      | (go_at_call 52; (with_reducible refine HCD.out.mono ?_); rintro e w2 ⟨v', rfl, hs2, hf2, hv2⟩
         have np : ¬ (Value.slice va l.keys.length vc).ownBlock = some p := HLS1.out.d
         have hobj2 := HLS1.out.obj.fr hf2 np
         have q3 := hobj2.cell 3 rfl
         have qf := hobj2.free 3
         have lp2 := hobj2.lt
         obtain ⟨sa, sc, rfl, hc1, hc2, hc3⟩ := hs2.shape
         have HS2 := Lib.hid hs2
         have HF2 := Lib.hid hf2
         have HV2 := Lib.hid hv2
         have HO2 := Lib.hid hobj2
         clear hs2 hf2 hobj2 hc1 hc2 hc3 hv2 np))
    go_ret
    have hnv : (Value.slice sa (delK key l.keys).length sc).ownBlock ≠ some p := by rw [HV2.out]; exact HLS1.out.d
    have hfp : Fr (fun b => b = p) w2 (w2.setCell ⟨p, 3, none⟩ (.slice sa (delK key l.keys).length sc)) := (Fr.refl (fun b => b = p) w2).setAt 3 _
    have hf12 : Fr (FL i0) w1 (w2.setCell ⟨p, 3, none⟩ (.slice sa (delK key l.keys).length sc)) := (HF2.out.mono fun b _ h => HOWN.out b h).trans hfp fun b _ e => by rw [show b = p from e]; exact HPO.out
    have hf3 : Fr (fun b => b = o ∨ FL i0 b) W (w2.setCell ⟨p, 3, none⟩ (.slice sa (delK key l.keys).length sc)) := (HFO.out.mono fun b _ e => .inl e).trans hf12 fun b _ e => .inr e
    have hls3 : LsAt (w2.setCell ⟨p, 3, none⟩ (.slice sa (delK key l.keys).length sc)) p { l with keys := delK key l.keys } (FL i0) := by
      refine ⟨_, ⟨HO2.out.set 3 _, HS2.out.other _ _ hnv, hnv⟩, fun x => ?_⟩
      rw [HV2.out]
      exact HFL.out x
    have hmo : MapS (w2.setCell ⟨p, 3, none⟩ (.slice sa (delK key l.keys).length sc)) o fun k => (ofL (setL T.L i0 fun l => { l with keys := delK key l.keys }) k).map (Value.int .i64) := by
      refine cast (congrArg (MapS _ o) (funext fun k => ?_)) (HMS.out.fr hf12 (HAW.out.do'.2 i0))
      rw [HOF.out k]
      split <;> rfl
    have hnew := HAW.out.setLs HL.out HPP.out hf3 hls3 (fun b hb => .inl hb) hmo
    refine ⟨rfl, _, _, hnew, HDET.out.1, HDET.out.2, ?_, ?_⟩
    · exact (HFA.out.mono fun _ _ s => s.elim).trans hf3 fun b _ h => by
        rcases h with h | h
        · exact .inr (.inr (.inl h))
        · exact .inr (.inr (.inr (.inr ⟨i0, h⟩)))
    · intro i b hb
      split at hb
      · rename_i e; rw [e]; exact hb
      · exact hb
end Go.Proofs.Ytlomeohcgjgpjaa
