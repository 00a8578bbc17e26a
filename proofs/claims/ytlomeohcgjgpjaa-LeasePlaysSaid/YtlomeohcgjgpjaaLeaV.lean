/- The table's Revoke over the document's table. The condition: numbers of int's range, at most 1000 calls. -/
import Derived.Test.YtlomeohcgjgpjaaLeaU
import Derived.Test.YtlomeohcgjgpjaaLeaE
namespace Go.Proofs.Ytlomeohcgjgpjaa
open Go Go.Proofs Go.RowKit
set_option maxRecDepth 100000

/-- Behind Revoke. -/
def RevTo (n : Nat) (w w' : World) (t : Nat) (F : Nat → Prop) (R : List LV) (id : Int) (e : Ending) : Prop := match getR R id with
  | some x => ∃ kv F', e = .returned (.tuple #[kv, .int .i64 0]) ∧ SlF w' 9 1 strC kv x.keys ∧ Lea n w' t (revokeR R id) F' ∧ Fr F w w' ∧ (∀ b, F' b → F b) ∧ (∀ b, kv.ownBlock = some b → F b ∧ ¬ F' b)
  | none => e = .returned (.tuple #[.slice none 0 0, .int .i64 35]) ∧ w = w'
theorem Revoke_nil (w : World) (id : Int) : Calls Try.prog 17 #[.pointer none, .int .i64 id] w fun e w' => e = .returned (.tuple #[.slice none 0 0, .int .i64 2]) ∧ w = w' := by
  have hf := fun W => find_nil W id
  go_enter Try.func17, Try.ntmps17
  go_wp2_with (go_at_call 36; (with_reducible refine (hf _).mono ?_); rintro e w' ⟨rfl, rfl⟩)
  go_ret2
  exact ⟨rfl, rfl⟩
theorem any_take {l : List ByteArray} {i : Nat} {x : ByteArray} (hx : l[i]? = some x) (k : ByteArray) : ((l.take (i + 1)).any fun j => keq j k) = ((l.take i).any (fun j => keq j k) || keq x k) := by
  rw [List.take_add_one, hx, List.any_append]
  simp
set_option maxHeartbeats 4000000 in
theorem Revoke_calls {n : Nat} (hn : n ≤ 1000) {w : World} {t : Nat} {R : List LV} {F : Nat → Prop} (h : Lea n w t R F) (id : Int) (hwf : (Lit.int .i64 id).wf = true) :
    Calls Try.prog 17 #[.pointer (some ⟨t, 0, none⟩), .int .i64 id] w fun e w' => RevTo n w w' t F R id e := by
  obtain ⟨T, ⟨m, o, qv, hp, FL, a, hF⟩, hT, rfl⟩ := h
  have hfc := find_calls a id hwf
  cases hl : getL T.L id with
  | none =>
    have HL0 := Lib.hid hl
    have hg := (a.gone id hl).1
    rw [hg] at hfc
    have HFC := Lib.hid hfc
    unfold findV ptrO at HFC
    clear hfc a hF hl hg hT
    go_enter Try.func17, Try.ntmps17
    go_wp2_with (go_at_call 36; (with_reducible refine HFC.out.mono ?_); rintro e w' ⟨rfl, rfl⟩; dsimp only [Option.map_none, Option.isSome_none])
    go_ret2
    unfold RevTo
    rw [getR_T, HL0.out]
    exact ⟨rfl, rfl⟩
  | some l =>
    have HL0 := Lib.hid hl
    obtain ⟨p, hpp, kv, hls, hFl⟩ := a.ls id l hl
    rw [hpp] at hfc
    have hm := getL_mem hl
    have hk := hT.ok.klen (viewL T.now (id, l)) (List.mem_map_of_mem hm)
    have hk1 : l.keys.length ≤ 1099511627 := by have := hk.1; unfold viewL at this; dsimp only at this; omega
    have hk2 : ∀ k ∈ l.keys, k.size ≤ maxLen := hk.2
    have hofd := ofL_del hT hl
    have hrv := hT.revoke id
    obtain ⟨va, vc, rfl, hc1, hc2, hc3⟩ := hls.keys.shape
    have c0 := a.obj.cell 0 rfl
    have lt := a.obj.lt
    have lp := hls.obj.lt
    have npm : ¬ p = m := fun e => a.dm.2 id (e ▸ (hFl p).2 (.inl rfl))
    have npo : ¬ p = o := fun e => a.do'.2 id (e ▸ (hFl p).2 (.inl rfl))
    have hkn : ∀ b, (Value.slice va l.keys.length vc).ownBlock = some b → ¬ (b = m ∨ b = o) := fun b hb h => by
      have := (hFl b).2 (.inr hb)
      rcases h with rfl | rfl
      · exact a.dm.2 id this
      · exact a.do'.2 id this
    have HFC := Lib.hid hfc
    unfold findV ptrO at HFC
    have HA := Lib.hid a
    have HFF := Lib.hid hF
    have HFL := Lib.hid hFl
    have HRV := Lib.hid hrv
    have HOF := Lib.hid hofd
    have HLS := Lib.hid hls
    have HK2 := Lib.hid hk2
    have HC3 := Lib.hid hc3
    have HKN := Lib.hid hkn
    have HW := Lib.hid hwf
    unfold maxLen at hc2
    clear hfc a hF hl hT hk hpp hm hrv hofd hls hk2 hFl hc3 hkn hwf
    go_enter Try.func17, Try.ntmps17
    go_upto_region 5 with (first
      | (go_at_call 36; (with_reducible refine HFC.out.mono ?_); rintro e w' ⟨rfl, rfl⟩; dsimp only [Option.map_some, Option.isSome_some])
      | (refine wpList_drop rfl _ _ 63 3 rfl 69 Try.underlying63 Try.underlying3 m _ rfl HA.out.map id rfl HW.out ?_; intro w1 hm1 hf1 hsz1))
    have hf1' : Fr (fun b => b = m ∨ b = o) w w1 := hf1.mono fun _ _ h => .inl h
    have hls1 := HLS.out.fr hf1 npm fun b hb e => HKN.out b hb (.inl e)
    have b3 := hls1.obj.cell 3 rfl
    have lp1 := hls1.obj.lt
    have hof1 := HA.out.of.fr hf1 fun e => HA.out.mo e.symm
    have HF1 := Lib.hid hf1'
    have HM1 := Lib.hid hm1
    have HOF1 := Lib.hid hof1
    clear hf1' hf1 hm1 hof1 hls1 hsz1
    go_wp2
    go_loopg [29] l.keys.length (fun g s29 wr => ∃ i : Nat, s29 = .int .i64 i ∧ i + g = l.keys.length ∧ Hid (MapS wr o fun k => if (l.keys.take i).any (fun j => keq j k) then none else (ofL T.L k).map (Value.int .i64)) ∧ Hid (Fr (fun b => b = o) w1 wr))
    case atStart => exact ⟨0, rfl, by simp, Lib.hid (by simpa using HOF1.out), Lib.hid (Fr.refl _ _)⟩
    case round =>
      obtain ⟨i, rfl, hi, HMS, HFR⟩ := hrel
      have hfr : Fr (fun b => b = m ∨ b = o) w wr := HF1.out.trans HFR.out fun _ _ h => .inr h
      have hls2 := HLS.out.fr hfr (by rintro (e | e)
                                      · exact npm e
                                      · exact npo e) fun b hb e => HKN.out b hb e
      have hobj := HA.out.obj.fr hfr (by rintro (e | e)
                                         · exact HA.out.map.apart HA.out.obj e.symm
                                         · exact HA.out.of.apart HA.out.obj e.symm)
      have c1 := hobj.cell 1 rfl
      have ltr := hobj.lt
      have b3r := hls2.obj.cell 3 rfl
      have lpr := hls2.obj.lt
      cases gk with
      | zero =>
        have hil : ¬ (i : Int) < (l.keys.length : Int) := by omega
        have HLS2 := Lib.hid hls2
        have HFRR := Lib.hid hfr
        clear hls2 hobj hfr
        go_wp2
        go_ret2
        have hie : i = l.keys.length := by omega
        have hof2 : MapS wr o fun k => (ofL (delL T.L id) k).map (Value.int .i64) := by
          refine cast (congrArg (MapS wr o) (funext fun k => ?_)) HMS.out
          rw [hie, List.take_length, HOF.out k]
          split <;> rfl
        have hmm := HM1.out.fr HFR.out fun e => HA.out.mo e
        have hnew := HA.out.delLs HFRR.out hmm hof2
        unfold RevTo
        rw [getR_T, HL0.out]
        refine ⟨_, _, rfl, HLS2.out.keys, ⟨_, ⟨m, o, qv, _, _, hnew, fun _ => Iff.rfl⟩, HRV.out.1, HRV.out.2⟩, HFRR.out.mono fun b _ e => (HFF.out b).2 ?_, fun b hb => (HFF.out b).2 ?_, fun b hb => ⟨(HFF.out b).2 (.inr (.inr (.inr (.inr ⟨id, (HFL.out b).2 (.inr hb)⟩)))), ?_⟩⟩
        · rcases e with e | e
          · exact .inr (.inl e)
          · exact .inr (.inr (.inl e))
        · rcases hb with h | h | h | h | ⟨j, h⟩
          · exact .inl h
          · exact .inr (.inl h)
          · exact .inr (.inr (.inl h))
          · exact .inr (.inr (.inr (.inl h)))
          · split at h
            · exact h.elim
            · exact .inr (.inr (.inr (.inr ⟨j, h⟩)))
        · have hfb := (HFL.out b).2 (.inr hb)
          rintro (h | h | h | h | ⟨j, h⟩)
          · exact HA.out.dt.2 id (h ▸ hfb)
          · exact HA.out.dm.2 id (h ▸ hfb)
          · exact HA.out.do'.2 id (h ▸ hfb)
          · exact HA.out.dq b h id hfb
          · split at h
            · exact h
            · rename_i hne
              exact hne (HA.out.dl j id b h hfb)
      | succ g =>
        obtain ⟨gb, go, rfl⟩ := HC3.out (by omega)
        obtain ⟨x, hx⟩ : ∃ x, l.keys[i]? = some x := ⟨_, List.getElem?_eq_getElem (by omega)⟩
        have x0 := hls2.keys.cell1 strC_length i hx rfl
        have hxm := HK2.out x (List.mem_of_getElem? hx)
        have hil : (i : Int) < (l.keys.length : Int) := by omega
        have hat := any_take hx
        have lgb := hls2.keys.lt gb rfl
        have HAT := Lib.hid hat
        have HXM := Lib.hid hxm
        clear hat hxm hx hls2 hobj hfr
        go_wp2_with (refine wpList_dropS rfl _ _ 64 9 rfl 3 Try.underlying64 Try.underlying9 o _ rfl HMS.out x rfl HXM.out ?_; intro w2 hm2 hf2 hsz2)
        have HF2 := Lib.hid (HFR.out.trans hf2 fun _ _ h => h)
        have hm2' : MapS w2 o fun k => if (l.keys.take (i + 1)).any (fun j => keq j k) then none else (ofL T.L k).map (Value.int .i64) := by
          refine cast (congrArg (MapS w2 o) (funext fun k => ?_)) hm2
          rw [HAT.out k]
          by_cases e : k = x
          · subst e
            rw [if_pos rfl, keq_iff.2 rfl, Bool.or_true, if_pos rfl]
          · rw [if_neg e, show keq x k = false from by rw [Bool.eq_false_iff]; exact fun h => e (keq_iff.1 h).symm, Bool.or_false]
        have HM2 := Lib.hid hm2'
        clear hm2 hf2 hsz2 hm2'
        go_roundg g
        case rel => exact ⟨i + 1, by go_num, by omega, HM2, HF2⟩
        case measure => omega
end Go.Proofs.Ytlomeohcgjgpjaa
