/- The package index: Set at a tree of one node. The condition: fewer than nine keys. -/
import Derived.Test.YthljnnjpmdgkoaaIndex2
namespace Go.Proofs.Ythljnnjpmdgkoaa
open Go Go.Proofs Go.RowKit
set_option maxRecDepth 100000

theorem insT_length (T : Pairs) (key : ByteArray) (n : Int) : (insT T key n).length ≤ T.length + 1 := by
  induction T with
  | nil => simp [insT]
  | cons p T ih =>
    unfold insT
    split
    · simp; omega
    · split <;> simp

theorem treeS_setN {w : World} {t nb no ncap pb po pcap k : Nat} {T : Pairs} {p : ByteArray × Int} {key : ByteArray} {m : Int} (h : TreeS w t (.slice (some ⟨nb, no, none⟩) 1 ncap) (.slice (some ⟨pb, po, none⟩) T.length pcap) T)
    (hp : T[k]? = some p) (hk : p.1 = key) : TreeS (w.setCell ⟨pb, po + k * 2 + 1, none⟩ (.int .i64 m)) t (.slice (some ⟨nb, no, none⟩) 1 ncap) (.slice (some ⟨pb, po, none⟩) T.length pcap) (T.set k (key, m)) := by
  subst hk
  have hlen : (T.set k (p.1, m)).length = T.length := by simp
  refine ⟨?_, ?_, ?_, h.d1, h.d2, h.d3⟩
  · rw [hlen]
    exact h.obj.other _ _ fun e => h.d2 (by rw [e]; rfl)
  · exact h.nodes.other _ _ fun e => h.d3 pb rfl (by simpa [Value.ownBlock] using e)
  · have := h.pairs.set pairC_length k 1 (by omega) p (p.1, m) (.int .i64 m) hp rfl
    exact this

theorem treeS_insert {w w1 : World} {t nb no ncap : Nat} {pv pv' : Value} {T L : Pairs} (h : TreeS w t (.slice (some ⟨nb, no, none⟩) 1 ncap) pv T) (hL : L.length = T.length + 1)
    (hs : SlF w1 127 2 pairC pv' L) (hf : Fr (fun b => pv.ownBlock = some b) w w1) (hown : ∀ b, pv'.ownBlock = some b → pv.ownBlock = some b ∨ w.heap.size ≤ b) :
    TreeS ((w1.setCell ⟨nb, no, none⟩ pv').setCell ⟨t, 3, none⟩ (.int .i64 ((T.length : Int) + 1))) t (.slice (some ⟨nb, no, none⟩) 1 ncap) pv' L := by
  have htl := h.obj.lt
  have hnl : nb < w.heap.size := h.nodes.lt nb rfl
  have hd1 : nb ≠ t := fun e => h.d1 (by rw [e]; rfl)
  have hp1 : ∀ b, pv'.ownBlock = some b → b ≠ t ∧ b ≠ nb := by
    intro b hb
    rcases hown b hb with e | e
    · exact ⟨fun x => h.d2 (by rw [e, x]), fun x => h.d3 b e (by rw [x]; rfl)⟩
    · omega
  have hn1 : SlF w1 198 2 nodeC (.slice (some ⟨nb, no, none⟩) 1 ncap) [(pv, .slice none 0 0)] := h.nodes.fr hf fun b hb hs => h.d3 b hs hb
  refine ⟨?_, ?_, ?_, h.d1, fun e => (hp1 t e).1 rfl, fun b hb e => (hp1 b hb).2 (by simpa [Value.ownBlock] using e.symm)⟩
  · have h1 := (h.obj.fr hf h.d2).other ⟨nb, no, none⟩ pv' (Ne.symm hd1)
    have h2 := h1.set 3 (.int .i64 ((T.length : Int) + 1))
    rw [hL]
    exact h2
  · have h1 := hn1.set nodeC_length 0 0 (by omega) (pv, .slice none 0 0) (pv', .slice none 0 0) pv' rfl rfl
    simp only [Nat.zero_mul, Nat.add_zero] at h1
    exact h1.other _ _ (by simpa [Value.ownBlock] using hd1)
  · exact (hs.other _ _ fun e => (hp1 nb e).2 rfl).other _ _ fun e => (hp1 t e).1 rfl

set_option maxHeartbeats 1000000 in
theorem Set1_calls (w : World) (t : Nat) (T : Pairs) (F : Nat → Prop) (key : ByteArray) (m : Int) (h : TreeAt1 w t T F) (hlt : T.length < 9) :
    Calls Try.prog 123 #[.pointer (some ⟨t, 0, none⟩), .string key, .int .i64 m] w fun e w' => (∃ v, e = .returned v) ∧ ∃ F', TreeAt1 w' t (insT T key m) F' ∧ Fr F w w' ∧ (∀ b, F' b → F b ∨ w.heap.size ≤ b) := by
  obtain ⟨nv, pv, h, hs, hl, hF⟩ := h
  have hspot := fun W h1 h2 h3 => spot_calls W t 0 nv pv (.slice none 0 0) [(pv, .slice none 0 0)] T key h1 h2 rfl (by simp) h3 (by omega)
  have c0 := h.obj.cell 0 rfl
  have c2 := h.obj.cell 2 rfl
  have c3 := h.obj.cell 3 rfl
  have hN := h.nodes
  have hP := h.pairs
  have hins := insT_eq T hs key m
  obtain ⟨hso, _⟩ := insT_sorted T hs key m
  have hilen := insT_length T key m
  obtain ⟨na, ncap, rfl, hc1, hc2, hna⟩ := hN.shape
  obtain ⟨nb, no, rfl⟩ := hna (by simp)
  obtain ⟨pa, pcap, rfl, hc3, hc4, hpa⟩ := hP.shape
  have n0 := hN.cell0 nodeC_length 0 rfl rfl
  have n1 := hN.cell nodeC_length 0 1 rfl rfl
  have nf := hN.free no
  simp only [Nat.zero_mul, Nat.add_zero] at n0 n1
  have hspot' := hspot w.drew c0 hN hP
  unfold spotTuple at hspot'
  have h9 : ((T.length : Int) == 9) = false := by simp; omega
  have H := Lib.hid h
  have HI := Lib.hid hins
  have HS := Lib.hid hso
  have HFF := Lib.hid hF
  clear h hspot hN hs hF hna hins hso
  by_cases hh : hitOf T key = true
  · obtain ⟨p, hp⟩ : ∃ p, T[spotOf T key]? = some p := by
      unfold hitOf at hh
      split at hh
      · exact ⟨_, by assumption⟩
      · cases hh
    have hil := (List.getElem?_eq_some_iff.1 hp).1
    obtain ⟨pb, po, rfl⟩ := hpa (by omega)
    have hc := hP.cell pairC_length _ 1 hp rfl
    have hfr := hP.free (po + spotOf T key * 2 + 1)
    have hpbl : pb < w.heap.size := hP.lt pb rfl
    have hilz : (spotOf T key : Int) < (T.length : Int) := by omega
    have HR : Hid (insT T key m = T.set (spotOf T key) (key, m)) := Lib.hid (by rw [HI.out, if_pos hh])
    have hkey : p.1 = key := by
      unfold hitOf at hh
      rw [hp] at hh
      exact keq_iff.1 hh
    have HK := Lib.hid hkey
    have HP := Lib.hid hP
    have HPp := Lib.hid hp
    have HH := Lib.hid hh
    clear hh hP hp hpa hkey
    go_enter Try.func123, Try.ntmps123
    go_wp2_with fail
    go_quiet (fail)
    have hq := Fr.drewN No w nq
    generalize w.drewN nq = W at hq ⊢
    replace hfr := hq.free0 hc hfr
    replace c0 := hq.cell0 c0
    replace c2 := hq.cell0 c2
    replace n0 := hq.cell0 n0
    replace hc := hq.cell0 hc
    have hsp := spot_calls W t 0 _ _ _ [(.slice (some ⟨pb, po, none⟩) T.length pcap, .slice none 0 0)] T key c0 (H.out.nodes.fr0 hq) rfl (by simp) (HP.out.fr0 hq) (by omega)
    unfold spotTuple at hsp
    rw [HH.out] at hsp
    generalize spotOf T key = k at *
    clear hspot' n1 c3 nf hpbl
    go_wp2_with fail
    go_loopg [9] 1 (fun g s9 wr => s9 = .int .i64 0 ∧ W = wr)
    case atStart => exact ⟨rfl, rfl⟩
    case round =>
      obtain ⟨rfl, rfl⟩ := hrel
      go_wp2_with (go_at_call 130; refine hsp.mono ?_; clear hsp; rintro e w' ⟨rfl, rfl⟩)
      go_ret2
      have hW : TreeS W t (.slice (some ⟨nb, no, none⟩) 1 ncap) (.slice (some ⟨pb, po, none⟩) T.length pcap) T :=
        ⟨H.out.obj.fr hq id, H.out.nodes.fr0 hq, H.out.pairs.fr0 hq, H.out.d1, H.out.d2, H.out.d3⟩
      refine ⟨⟨_, rfl⟩, F, ⟨.slice (some ⟨nb, no, none⟩) 1 ncap, .slice (some ⟨pb, po, none⟩) T.length pcap, ?_, HS.out, by omega, HFF.out⟩, ?_, fun b hb => .inl hb⟩
      · rw [HR.out]
        exact treeS_setN hW HPp.out HK.out
      · exact (hq.mono fun _ _ s => s.elim).setCell (.inl ((HFF.out pb).2 (.inr (.inr rfl)))) _
  · simp only [Bool.not_eq_true] at hh
    have HR : Hid (insT T key m = T.take (spotOf T key) ++ (key, m) :: T.drop (spotOf T key)) := Lib.hid (by rw [HI.out, hh]; simp)
    have hput := fun W hv => putPair_calls W (.slice pa T.length pcap) T (spotOf T key) (key, m) hv (spotOf_le T key) (by omega)
    have HP := Lib.hid hP
    have HH := Lib.hid hh
    clear hh hP hpa
    go_enter Try.func123, Try.ntmps123
    go_wp2_with fail
    go_quiet (fail)
    have hq := Fr.drewN No w nq
    generalize w.drewN nq = W at hq ⊢
    have d3 := hq.free0 c3 (H.out.obj.free 3)
    replace nf := hq.free0 n0 nf
    replace c0 := hq.cell0 c0
    replace c2 := hq.cell0 c2
    replace c3 := hq.cell0 c3
    replace n0 := hq.cell0 n0
    replace n1 := hq.cell0 n1
    have hsp := spot_calls W t 0 _ _ _ [(.slice pa T.length pcap, .slice none 0 0)] T key c0 (H.out.nodes.fr0 hq) rfl (by simp) (HP.out.fr0 hq) (by omega)
    unfold spotTuple at hsp
    rw [HH.out] at hsp
    have hW : TreeS W t (.slice (some ⟨nb, no, none⟩) 1 ncap) (.slice pa T.length pcap) T :=
      ⟨H.out.obj.fr hq id, H.out.nodes.fr0 hq, H.out.pairs.fr0 hq, H.out.d1, H.out.d2, H.out.d3⟩
    have hputW := hput W hW.pairs
    have HW := Lib.hid hW
    have hln : (insT T key m).length = T.length + 1 := by
      have := spotOf_le T key
      rw [HR.out]; simp; omega
    have HLN := Lib.hid hln
    have htn : t ≠ nb := fun e => hW.d1 (by rw [e]; rfl)
    have hpt : ¬ (Value.slice pa T.length pcap).ownBlock = some t := hW.d2
    have hpn : ¬ (Value.slice pa T.length pcap).ownBlock = some nb := fun e => hW.d3 nb e rfl
    generalize spotOf T key = k at *
    clear hspot' hput hln hW
    go_wp2_with fail
    go_loopg [9] 1 (fun g s9 wr => s9 = .int .i64 0 ∧ W = wr)
    case atStart => exact ⟨rfl, rfl⟩
    case round =>
      obtain ⟨rfl, rfl⟩ := hrel
      go_wp2_with (first
        | (go_at_call 130; refine hsp.mono ?_; clear hsp; rintro e w' ⟨rfl, rfl⟩)
        | (go_at_call 144; refine hputW.mono ?_; clear hputW; rintro e w1 ⟨g, o, cap, rfl, hs1, hf1, hg1⟩; have e0 := hf1.cell n0 hpn; have ef := hf1.free n0 nf hpn; have e3 := hf1.cell c3 hpt; have ef3 := hf1.free c3 d3 hpt; have HS1 := Lib.hid hs1; clear hs1))
      go_ret2
      have hs1' := HS1.out
      rw [← HR.out] at hs1'
      have hown : ∀ b, (Value.slice (some ⟨g, o, none⟩) (T.length + 1) cap).ownBlock = some b → (Value.slice pa T.length pcap).ownBlock = some b ∨ W.heap.size ≤ b := by
        intro b hb
        obtain rfl : g = b := by simpa [Value.ownBlock] using hb
        exact hg1
      refine ⟨⟨_, rfl⟩, _, ⟨.slice (some ⟨nb, no, none⟩) 1 ncap, .slice (some ⟨g, o, none⟩) (T.length + 1) cap, treeS_insert HW.out HLN.out hs1' hf1 hown, HS.out, by rw [HLN.out]; omega, fun b => Iff.rfl⟩, ?_, ?_⟩
      · refine ((((hq.mono fun _ _ s => s.elim).trans hf1 ?_).setCell (p := ⟨nb, no, none⟩) ?_ _).setCell (p := ⟨t, 3, none⟩) ?_ _)
        · intro j _ hj; exact (HFF.out j).2 (.inr (.inr hj))
        · exact .inl ((HFF.out nb).2 (.inr (.inl rfl)))
        · exact .inl ((HFF.out t).2 (.inl rfl))
      · rintro b (rfl | e | e)
        · exact .inl ((HFF.out _).2 (.inl rfl))
        · exact .inl ((HFF.out _).2 (.inr (.inl e)))
        · rcases hown b e with e | e
          · exact .inl ((HFF.out _).2 (.inr (.inr e)))
          · exact .inr (Nat.le_trans hq.size e)
end Go.Proofs.Ythljnnjpmdgkoaa
