/- The table's Attach over the document's table. The condition: numbers of int's range, at most 1000 calls. -/
import Derived.Test.YtlomeohcgjgpjaaLeaW
import Derived.Test.YtlomeohcgjgpjaaInsK
namespace Go.Proofs.Ytlomeohcgjgpjaa
open Go Go.Proofs Go.RowKit
set_option maxRecDepth 100000

def attE (R : List LV) (id : Int) : Int := if (getR R id).isSome then 0 else 35
theorem Attach_nil (w : World) (id : Int) (key : ByteArray) : Calls Try.prog 34 #[.pointer none, .int .i64 id, .string key] w fun e w' => e = .returned (.int .i64 2) ∧ w = w' := by
  have hf := fun W => find_nil W id
  go_enter Try.func34, Try.ntmps34
  go_wp2_with (go_at_call 36; (with_reducible refine (hf _).mono ?_); rintro e w' ⟨rfl, rfl⟩)
  go_ret
  exact ⟨rfl, rfl⟩
set_option maxHeartbeats 4000000 in
theorem Attach_calls {n : Nat} (hn : n ≤ 1000) {w : World} {t : Nat} {R : List LV} {F : Nat → Prop} (h : Lea n w t R F) (id : Int) (key : ByteArray) (hwf : (Lit.int .i64 id).wf = true) (hk : key.size ≤ maxLen) :
    Calls Try.prog 34 #[.pointer (some ⟨t, 0, none⟩), .int .i64 id, .string key] w fun e w' => e = .returned (.int .i64 (attE R id)) ∧ LeaTo (n + 1) w w' t F (if (getR R id).isSome then attachR R id key else R) := by
  have hL := h
  obtain ⟨T, ⟨m, o, qv, hp, FL, a, hF⟩, hT, rfl⟩ := h
  have hfc := find_calls a id hwf
  unfold attE
  cases hl : getL T.L id with
  | none =>
    have hs : (getR T.view id).isSome = false := by rw [getR_T, hl]; rfl
    rw [hs]
    have hg := (a.gone id hl).1
    rw [hg] at hfc
    have HFC := Lib.hid hfc
    have HL := Lib.hid hL
    unfold findV ptrO at HFC
    clear hfc hL a hF hl hg hT hs
    go_enter Try.func34, Try.ntmps34
    go_wp2_with (go_at_call 36; (with_reducible refine HFC.out.mono ?_); rintro e w' ⟨rfl, rfl⟩; dsimp only [Option.map_none, Option.isSome_none])
    go_ret
    exact ⟨rfl, HL.out.to (Nat.le_succ _) (Fr.refl _ _)⟩
  | some l =>
    have hs : (getR T.view id).isSome = true := by rw [getR_T, hl]; rfl
    rw [hs]
    obtain ⟨p, hpp, _⟩ := a.ls id l hl
    rw [hpp] at hfc
    have hdc := Detach_calls hn a hT key hk
    have HFC := Lib.hid hfc
    have HDC := Lib.hid hdc
    unfold findV ptrO at HFC
    have HFF := Lib.hid hF
    have HS := Lib.hid hs
    have HPP := Lib.hid hpp
    have HKK := Lib.hid hk
    have HTO := Lib.hid hT
    have HW := Lib.hid hwf
    clear hfc hdc hL a hF hl hT hs hpp hk hwf
    go_enter Try.func34, Try.ntmps34
    go_upto_region 5 with (first
      | (go_at_call 36; (with_reducible refine HFC.out.mono ?_); rintro e w' ⟨rfl, rfl⟩; dsimp only [Option.map_some, Option.isSome_some])
      | (go_at_call 35; (with_reducible refine HDC.out.mono ?_); rintro e w1 ⟨rfl, hd1⟩; have HD1 := Lib.hid hd1; clear hd1))
    obtain ⟨FL1, T1, a1, hT1, hv1, hf1, hn1⟩ := HD1.out
    obtain ⟨l1, hl1⟩ : ∃ l1, getL T1.L id = some l1 := by
      have h1 := getR_T (T := T1) id
      rw [hv1, getR_detach] at h1
      cases h2 : getL T1.L id with
      | some l1 => exact ⟨l1, rfl⟩
      | none =>
        rw [h2] at h1
        cases h3 : getR T.view id with
        | none => have := HS.out; rw [h3] at this; cases this
        | some x => rw [h3] at h1; cases h1
    obtain ⟨p1, hpp1, kv, hls, hFl⟩ := a1.ls id l1 hl1
    rw [HPP.out] at hpp1
    cases hpp1
    have hm1 := getL_mem hl1
    have hkl := hT1.ok.klen (viewL T1.now (id, l1)) (List.mem_map_of_mem hm1)
    have hk1 : l1.keys.length ≤ 1000 := by have := hkl.1; unfold viewL at this; dsimp only at this; omega
    have hrise : KRise l1.keys := hT1.ok.keys (viewL T1.now (id, l1)) (List.mem_map_of_mem hm1)
    have hnot : ∀ x ∈ T1.L, key ∉ x.2.keys := fun x hx => detachR_not (R := T.view) (viewL T1.now x) (by rw [← hv1]; exact List.mem_map_of_mem hx)
    have hno1 : key ∉ l1.keys := hnot _ hm1
    have hofi := ofL_insK hT1 hl1 hnot
    have hatt := hT1.attach hv1 (HTO.out.ok.attach id key HKK.out)
    have hie := insK_eq hno1
    have hsl := spotK_le key l1.keys
    obtain ⟨va, vc, rfl, hc1, hc2, hc3⟩ := hls.keys.shape
    have cS := search_calls w1 _ l1.keys key hls.keys (by omega) hrise hno1
    have p3 := hls.obj.cell 3 rfl
    have lp1 := hls.obj.lt
    have hlp : ∀ b, (Value.slice va l1.keys.length vc).ownBlock = some b → b < w1.heap.size := hls.keys.lt
    have cI := fun (W : World) (hW : Fr No w1 W) (kb : Nat) (hb : W.heap[kb]? = some (.cells #[.string key] 9 (0, 0))) (hne : w1.heap.size ≤ kb) => insert_calls W _ l1.keys key (hls.keys.fr0 hW) (by omega) (spotK key l1.keys) hsl kb hb (fun e => by have := hlp _ e; omega)
    have HCS := Lib.hid cS
    have HCI := Lib.hid cI
    have HA1 := Lib.hid a1
    have HL1 := Lib.hid hl1
    have HLS := Lib.hid hls
    have HFL := Lib.hid hFl
    have HATT := Lib.hid hatt
    have HOF := Lib.hid hofi
    have HIE := Lib.hid hie
    have HF1 := Lib.hid hf1
    have HN1 := Lib.hid hn1
    have HLP := Lib.hid hlp
    clear cS cI a1 hl1 hls hFl hatt hofi hie hf1 hn1 hm1 hkl hrise hnot hno1 hT1 hv1 hc1 hc2 hc3 hlp
    generalize hsp : spotK key l1.keys = sp at *
    have hsp9 : sp ≤ 1000 := by omega
    clear hsp
    go_upto_region 6 with (go_at_call 50; (with_reducible refine HCS.out.mono ?_); rintro e w2 ⟨rfl, q, rfl⟩)
    have hfq : Fr No w1 (w1.drewN q) := Fr.drewN No w1 q
    have p3q := hfq.cell0 p3
    have hfb : Fr No w1 ((w1.drewN q).alloc (.cells #[.string key] 9)) := hfq.alloc _
    have hbb := alloc_at (w1.drewN q) (.cells #[.string key] 9) w1.heap.size rfl
    have cI := HCI.out _ hfb w1.heap.size hbb (Nat.le_refl _)
    have CI := Lib.hid cI
    have HFB := Lib.hid hfb
    clear cI hfb hbb hfq
    go_upto_region 7 with (go_at_call 51; (with_reducible refine CI.out.mono ?_); rintro e w3 ⟨v', rfl, hs3, hf3, hn3⟩
                           have hobj3 := (HLS.out.obj.fr HFB.out fun h => h).fr hf3 HLS.out.d
                           have q3 := hobj3.cell 3 rfl
                           have qf := hobj3.free 3
                           have lp3 := hobj3.lt
                           rw [← HIE.out] at hs3
                           obtain ⟨sa, sc, rfl, hd1, hd2, hd3⟩ := hs3.shape
                           have HS3 := Lib.hid hs3
                           have HF3 := Lib.hid hf3
                           have HN3 := Lib.hid hn3
                           have HO3 := Lib.hid hobj3
                           clear hs3 hf3 hobj3 hd1 hd2 hd3 hn3)
    have hnv : (Value.slice sa (insK key l1.keys).length sc).ownBlock ≠ some p := fun e => by
      rcases HN3.out _ e with h | h
      · exact HLS.out.d h
      · have h2 : w1.heap.size + 1 ≤ p := by simpa using h
        omega
    have hfp : Fr (fun b => b = p) w3 (w3.setCell ⟨p, 3, none⟩ (.slice sa (insK key l1.keys).length sc)) := (Fr.refl (fun b => b = p) w3).setAt 3 _
    have hown : ∀ b, (Value.slice va l1.keys.length vc).ownBlock = some b → FL1 id b := fun b hb => (HFL.out b).2 (.inr hb)
    have hpo : FL1 id p := (HFL.out p).2 (.inl rfl)
    have hf4 : Fr (FL1 id) w1 (w3.setCell ⟨p, 3, none⟩ (.slice sa (insK key l1.keys).length sc)) := ((HFB.out.mono fun _ _ s => s.elim).trans (HF3.out.mono fun b _ h => hown b h) fun _ _ h => h).trans hfp fun b _ e => by rw [show b = p from e]; exact hpo
    have hobj4 := HO3.out.set 3 (.slice sa (insK key l1.keys).length sc)
    have hs4 := HS3.out.other ⟨p, 3, none⟩ (.slice sa (insK key l1.keys).length sc) hnv
    have lp4 := hobj4.lt
    generalize w3.setCell ⟨p, 3, none⟩ (.slice sa (insK key l1.keys).length sc) = w4 at *
    have hms := HA1.out.of.fr hf4 (HA1.out.do'.2 id)
    have c14 := (HA1.out.obj.fr hf4 (HA1.out.dt.2 id)).cell 1 rfl
    have lt4 : t < w4.heap.size := Nat.lt_of_lt_of_le HA1.out.obj.lt hf4.size
    have HMS := Lib.hid hms
    have HF4 := Lib.hid hf4
    have HO4 := Lib.hid hobj4
    have HS4 := Lib.hid hs4
    have HNV := Lib.hid hnv
    clear hms hf4 hobj4 hs4 hnv hfp q3 qf HO3 HS3
    go_wp2_with (refine wpList_storeS rfl _ _ _ 64 rfl 9 3 Try.underlying64 Try.underlying9 o _ rfl HMS.out key rfl HKK.out (.int .i64 id) rfl ?_; intro w5 hm5 hf5 hsz5)
    go_ret
    have hpo' : ¬ p = o := fun e => HA1.out.do'.2 id (e ▸ hpo)
    have hvo : ∀ b, (Value.slice sa (insK key l1.keys).length sc).ownBlock = some b → FL1 id b ∨ w1.heap.size ≤ b := fun b hb => (HN3.out b hb).imp (hown b) fun h => by
      have h2 : w1.heap.size + 1 ≤ b := by simpa using h
      omega
    have hvno : ∀ b, (Value.slice sa (insK key l1.keys).length sc).ownBlock = some b → ¬ b = o := fun b hb e => by
      rcases hvo b hb with h | h
      · exact HA1.out.do'.2 id (e ▸ h)
      · have := HA1.out.of.lt; omega
    have hls5 : LsAt w5 p { l1 with keys := insK key l1.keys } (fun b => b = p ∨ (Value.slice sa (insK key l1.keys).length sc).ownBlock = some b) :=
      ⟨_, ⟨HO4.out.fr hf5 hpo', HS4.out.fr hf5 hvno, HNV.out⟩, fun _ => Iff.rfl⟩
    have hmo : MapS w5 o fun k => (ofL (setL T1.L id fun l => { l with keys := insK key l.keys }) k).map (Value.int .i64) := by
      refine cast (congrArg (MapS w5 o) (funext fun k => ?_)) hm5
      rw [HOF.out k]
      split <;> rfl
    have hf15 : Fr (fun b => b = o ∨ FL1 id b) w1 w5 := (HF4.out.mono fun b _ h => .inr h).trans hf5 fun b _ e => .inl e
    have hnew := HA1.out.setLs HL1.out HPP.out hf15 hls5 (fun b hb => by
      rcases hb with rfl | h
      · exact .inl hpo
      · exact hvo b h) hmo
    have hlea : ∀ b, leaF t m o qv FL1 b → F b := fun b hb => (HFF.out b).2 (by
      rcases hb with h | h | h | h | ⟨i, h⟩
      · exact .inl h
      · exact .inr (.inl h)
      · exact .inr (.inr (.inl h))
      · exact .inr (.inr (.inr (.inl h)))
      · exact .inr (.inr (.inr (.inr ⟨i, HN1.out i b h⟩))))
    have hsz := HF1.out.size
    refine ⟨rfl, _, ⟨_, ⟨m, o, qv, hp, _, hnew, fun _ => Iff.rfl⟩, HATT.out.1, HATT.out.2⟩, (HF1.out.mono fun b _ h => (HFF.out b).2 h).trans hf15 fun b _ h => ?_, fun b hb => ?_⟩
    · rcases h with h | h
      · exact hlea b (.inr (.inr (.inl h)))
      · exact hlea b (.inr (.inr (.inr (.inr ⟨id, h⟩))))
    · rcases hb with h | h | h | h | ⟨i, h⟩
      · exact .inl (hlea b (.inl h))
      · exact .inl (hlea b (.inr (.inl h)))
      · exact .inl (hlea b (.inr (.inr (.inl h))))
      · exact .inl (hlea b (.inr (.inr (.inr (.inl h)))))
      · split at h
        · rcases h with h | h
          · exact .inl (hlea b (.inr (.inr (.inr (.inr ⟨id, h ▸ hpo⟩)))))
          · rcases hvo b h with h2 | h2
            · exact .inl (hlea b (.inr (.inr (.inr (.inr ⟨id, h2⟩)))))
            · exact .inr (by omega)
        · exact .inl (hlea b (.inr (.inr (.inr (.inr ⟨i, h⟩)))))
end Go.Proofs.Ytlomeohcgjgpjaa
