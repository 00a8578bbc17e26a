/- The table's Tick over the document's table. The condition: at most 1000 calls. -/
import Derived.Test.YtlomeohcgjgpjaaLeaX
import Derived.Test.YtlomeohcgjgpjaaSrt
namespace Go.Proofs.Ytlomeohcgjgpjaa
open Go Go.Proofs Go.RowKit
set_option maxRecDepth 100000

/-- Behind Tick. -/
def TickTo (n : Nat) (w w' : World) (t : Nat) (F : Nat → Prop) (R : List LV) (k : Int) (e : Ending) : Prop :=
  ∃ v, e = .returned v ∧ SlF w' 3 1 int1 v (toldR R k) ∧ (∀ b, v.ownBlock = some b → w.heap.size ≤ b) ∧ ∃ F', Lea n w' t (tickR R k) F' ∧ Fr F w w' ∧ (∀ b, F' b → F b ∨ w.heap.size ≤ b) ∧ ∀ b, v.ownBlock = some b → ¬ F' b
theorem Tick_nil (w : World) (k : Int) : Calls Try.prog 19 #[.pointer none, .int .i64 k] w fun e w' => e = .returned (.slice none 0 0) ∧ w = w' := by
  go_enter Try.func19, Try.ntmps19
  go_wp2
  go_ret
  exact ⟨rfl, rfl⟩
theorem info3 : (Try.prog.info? 3).map (fun i => (i.zero, i.size, i.bytes)) = some (some (.int .i64 0), 1, 8) := by kernel_rfl
theorem as82 (v : Value) (w : World) : (Instr.typeAssert (.iface 82 v) 20 82 false).run Try.prog w = .ok v w := by kernel_rfl
/-- The table amid a Tick. -/
structure Amid (w wr : World) (t m o : Nat) (qv : Value) (hp : Int → Option Nat) (FL : Int → Nat → Prop) (T : LT) (now : Int) (v : Value) (out : List Int) (q : List Ent) : Prop where
  tab : ∃ qv' L, LeaR wr t m o qv' hp FL ⟨L, now, q⟩ ∧ TickI T now L q out ∧ (∀ b, qv'.ownBlock = some b → qv.ownBlock = some b ∨ w.heap.size ≤ b) ∧ ∀ b, v.ownBlock = some b → qv'.ownBlock ≠ some b
  out : SlF wr 3 1 int1 v out
  new : ∀ b, v.ownBlock = some b → w.heap.size ≤ b
  fr : Fr (leaF t m o qv FL) w wr
theorem Amid.fr0 {w wr wz : World} {t m o : Nat} {qv : Value} {hp : Int → Option Nat} {FL : Int → Nat → Prop} {T : LT} {now : Int} {v : Value} {out : List Int} {q : List Ent} (h : Amid w wr t m o qv hp FL T now v out q) (hf : Fr No wr wz) : Amid w wz t m o qv hp FL T now v out q := by
  obtain ⟨⟨qv', L, h1, h2, h3, h4⟩, h5, h6, h7⟩ := h
  exact ⟨⟨qv', L, h1.fr hf fun _ _ h => h, h2, h3, h4⟩, h5.fr0 hf, h6, h7.trans0 hf⟩
/-- The end of a Tick: the numbers told are sorted. -/
theorem Amid.end_ {n : Nat} {w wr wz : World} {t m o : Nat} {qv : Value} {hp : Int → Option Nat} {FL : Int → Nat → Prop} {T : LT} {k : Int} {v : Value} {out : List Int} {q : List Ent} {F : Nat → Prop} (h : Amid w wr t m o qv hp FL T (T.now + min k maxT) v out q) (hT : TOk n T)
    (hF : ∀ b, F b ↔ leaF t m o qv FL b) (hlt : ∀ b, leaF t m o qv FL b → b < w.heap.size) (hk : 1 ≤ k) (hq : ∀ e ∈ q, T.now + min k maxT < e.1) (hs : SlF wz 3 1 int1 v (sortI out)) (hf : Fr (fun b => v.ownBlock = some b) wr wz) : TickTo (n + 1) w wz t F T.view k (.returned v) := by
  obtain ⟨⟨qv', L, h1, h2, h3, h4⟩, h5, h6, h7⟩ := h
  obtain ⟨g1, g2, g3⟩ := h2.done hT hk hq (sortI_rise h2.nd) fun i => sortI_mem
  have hno : ∀ b, v.ownBlock = some b → ¬ leaF t m o qv' FL b := by
    intro b hb hl
    have hnb := h6 b hb
    rcases hl with h | h | h | h | ⟨i, h⟩
    · have := hlt b (.inl h); omega
    · have := hlt b (.inr (.inl h)); omega
    · have := hlt b (.inr (.inr (.inl h))); omega
    · exact h4 b hb h
    · have := hlt b (.inr (.inr (.inr (.inr ⟨i, h⟩)))); omega
  have hz := h1.fr hf fun b hb hb' => hno b hb' hb
  refine ⟨v, rfl, by rw [← g3]; exact hs, h6, _, ⟨_, ⟨m, o, qv', hp, FL, hz, fun _ => Iff.rfl⟩, g1, g2⟩, ?_, ?_, hno⟩
  · refine ⟨hf.os.trans h7.os, hf.tape.trans h7.tape, hf.output.trans h7.output, Nat.le_trans h7.size hf.size, fun b hb hnb => ?_⟩
    rw [hf.block b (Nat.lt_of_lt_of_le hb h7.size) fun e => by have := h6 b e; omega]
    exact h7.block b hb fun e => hnb ((hF b).2 e)
  · rintro b (h | h | h | h | ⟨i, h⟩)
    · exact .inl ((hF b).2 (.inl h))
    · exact .inl ((hF b).2 (.inr (.inl h)))
    · exact .inl ((hF b).2 (.inr (.inr (.inl h))))
    · exact (h3 b h).imp (fun h => (hF b).2 (.inr (.inr (.inr (.inl h))))) fun h => h
    · exact .inl ((hF b).2 (.inr (.inr (.inr (.inr ⟨i, h⟩)))))
set_option maxHeartbeats 8000000 in
theorem Tick_calls {n : Nat} (hn : n ≤ 1000) {w : World} {t : Nat} {R : List LV} {F : Nat → Prop} (h : Lea n w t R F) (k : Int) :
    Calls Try.prog 19 #[.pointer (some ⟨t, 0, none⟩), .int .i64 k] w fun e w' => TickTo (n + 1) w w' t F R k e := by
  by_cases hk : k < 1
  · have hL := h
    have ht : toldR R k = [] := by unfold toldR; rw [if_pos hk]
    have hr : tickR R k = R := by unfold tickR; rw [if_pos hk]
    have HL := Lib.hid hL
    have HT := Lib.hid ht
    have HR := Lib.hid hr
    clear hL h ht hr
    go_enter Try.func19, Try.ntmps19
    go_wp2
    all_goals first | (exfalso; omega) | skip
    go_ret
    refine ⟨_, rfl, by rw [HT.out]; exact SlF.nil _ _ _ _, by simp [Value.ownBlock], F, by rw [HR.out]; exact HL.out.up (Nat.le_succ _), Fr.refl _ _, fun _ h => .inl h, by simp [Value.ownBlock]⟩
  · obtain ⟨T, ⟨m, o, qv, hp, FL, a, hF⟩, hT, rfl⟩ := h
    have hn0 := hT.now0
    have hn1 := hT.now1
    have hql := hT.qlen
    unfold maxT at hn1
    have hmin1 : 1 ≤ min k 1073741824 := by omega
    have hmin2 : min k 1073741824 ≤ 1073741824 := by omega
    have c2 := a.obj.cell 2 rfl
    have f2 := a.obj.free 2
    have lt := a.obj.lt
    have hft : Fr (fun b => b = t) w (w.setCell ⟨t, 2, none⟩ (.int .i64 (T.now + min k 1073741824))) := (Fr.refl (fun b => b = t) w).setAt 2 _
    have ha1 := a.setQ (now := T.now + min k 1073741824) (qv' := qv) (q' := T.q) (hft.mono fun b _ e => .inl e) (a.obj.set 2 (.int .i64 (T.now + min k 1073741824))) (a.q.other _ _ a.dt.1) (fun b hb => .inl hb)
    have hst := TickI.start hT (T.now + min k 1073741824)
    have hA0 : Amid w (w.setCell ⟨t, 2, none⟩ (.int .i64 (T.now + min k 1073741824))) t m o qv hp FL T (T.now + min k 1073741824) (.slice none 0 0) [] T.q :=
      ⟨⟨qv, T.L, ha1, hst, fun b hb => .inl hb, by simp [Value.ownBlock]⟩, SlF.nil _ _ _ _, by simp [Value.ownBlock], hft.mono fun b _ e => .inl e⟩
    have HA0 := Lib.hid hA0
    have HT := Lib.hid hT
    have HF := Lib.hid hF
    have HA := Lib.hid a
    clear a hF hT hft ha1 hst hA0
    have hs : T.now + min k 1073741824 ≤ 1099511627776 := by omega
    go_enter Try.func19, Try.ntmps19
    go_wp2
    all_goals first | (exfalso; omega) | skip
    generalize hnw : T.now + min k 1073741824 = now at *
    have HNW := Lib.hid hnw
    have HLT : Hid (∀ b, leaF t m o qv FL b → b < w.heap.size) := Lib.hid HA.out.lt
    have hLn : T.L.length ≤ n := by have := HT.out.ok.len; unfold LT.view at this; rwa [List.length_map] at this
    clear hnw c2 f2 hmin1 hmin2
    generalize w.setCell ⟨t, 2, none⟩ (.int .i64 now) = w0 at *
    go_loopg [5] T.q.length (fun gg s5 wr => ∃ (v : Value) (out : List Int) (q : List Ent), s5 = v ∧ gg = q.length ∧ Hid (Amid w wr t m o qv hp FL T now v out q))
    case atStart => exact ⟨_, [], T.q, rfl, rfl, HA0⟩
    case round =>
      obtain ⟨v, out, q, rfl, rfl, HM⟩ := hrel
      obtain ⟨⟨qv', L, a1, hI, hqn, hqd⟩, hout, hnew, hfr⟩ := HM.out
      have hol := hI.out_len HT.out
      have hql1 := hI.len
      have c3 := a1.obj.cell 3 rfl
      have c2 := a1.obj.cell 2 rfl
      have ltr := a1.obj.lt
      obtain ⟨qa, qc, rfl, hs1, hs2, hs3⟩ := a1.q.shape
      dsimp only at c3 c2 hs1 hs3
      unfold maxLen at hs2
      have A1 := Lib.hid a1
      have HI := Lib.hid hI
      have HQN := Lib.hid hqn
      have HQD := Lib.hid hqd
      have HO := Lib.hid hout
      have HNEW := Lib.hid hnew
      have HFR := Lib.hid hfr
      cases q with
      | nil =>
        clear a1 hI hqn hqd hout hnew hfr hs3
        go_wp2_with fail
        go_quiet (fail)
        have cS := sort_calls (wr.drewN nq) u5 out (HO.out.fr0 (Fr.drewN No wr nq)) (by omega)
        have CS := Lib.hid cS
        clear cS
        go_wp2_with (go_at_call 38; (with_reducible refine CS.out.mono ?_); rintro e w9 ⟨rfl, hs9, hf9⟩; have HS9 := Lib.hid hs9; have HF9 := Lib.hid hf9; clear hs9 hf9)
        go_ret
        obtain rfl := HNW.out
        exact Amid.end_ (HM.out.fr0 (Fr.drewN No wr nq)) HT.out HF.out HLT.out (by omega) (by simp) HS9.out HF9.out
      | cons x q1 =>
        obtain ⟨g, o', rfl⟩ := hs3 (by simp)
        have hx0 : (x :: q1)[0]? = some x := rfl
        have e0 := a1.q.cell0 entC_length 0 hx0 rfl
        try dsimp only at e0
        rw [Nat.zero_mul, Nat.add_zero] at e0
        have lg := a1.q.lt g rfl
        by_cases hdue : x.1 ≤ now
        · have hpop := fun W (hW : Fr No wr W) => heapPop_calls W t _ _ _ _ _ (a1.fr hW fun _ _ h => h).qat (by dsimp only; omega) hI.heap x hx0
          have HPOP := Lib.hid hpop
          clear a1 hI hqn hqd hout hnew hfr hs3 hpop
          go_wp2_with fail
          go_quiet (fail)
          have hat := as82 (.agg #[.int .i64 x.1, .int .i64 x.2])
          go_upto_region 7 with (go_at_call 37; (with_reducible refine (HPOP.out _ (Fr.drewN No wr nq)).mono ?_); rintro e w2 ⟨rfl, hp2⟩; have HP2 := Lib.hid hp2; clear hp2)
          clear hat c3 c2 e0
          obtain ⟨q', ⟨qv2, g1, g2, g3⟩, g4, g5⟩ := HP2.out
          have hwr := HFR.out.size
          have a2 := ((A1.out.fr (Fr.drewN No wr nq) fun _ _ h => h).setQ g2 g1.obj g1.sl g3).fr ((Fr.refl No w2).alloc (.cells #[.int .i64 x.1, .int .i64 x.2] 82)) fun _ _ h => h
          have hf3 : Fr (fun b => b = t ∨ (Value.slice (some ⟨g, o', none⟩) (x :: q1).length qc).ownBlock = some b) wr (w2.alloc (.cells #[.int .i64 x.1, .int .i64 x.2] 82)) := ((Fr.drewN _ wr nq).trans g2 fun _ _ h => h).alloc _
          have hbx := alloc_at w2 (.cells #[.int .i64 x.1, .int .i64 x.2] 82) w2.heap.size rfl
          have hw2 : wr.heap.size ≤ w2.heap.size := g2.size
          have hun : ∀ b, u5.ownBlock = some b → ¬ (b = t ∨ (Value.slice (some ⟨g, o', none⟩) (x :: q1).length qc).ownBlock = some b) := fun b hb h => by
            rcases h with h | h
            · have := HNEW.out b hb; have := HLT.out t (.inl rfl); omega
            · exact HQD.out b hb h
          have ho3 := HO.out.fr hf3 hun
          have hqn2 : ∀ b, qv2.ownBlock = some b → qv.ownBlock = some b ∨ w.heap.size ≤ b := fun b hb => by
            rcases g3 b hb with h | h
            · exact HQN.out b h
            · right
              have h' : wr.heap.size ≤ b := h
              omega
          have hqd2 : ∀ b, u5.ownBlock = some b → qv2.ownBlock ≠ some b := fun b hb h => by
            rcases g3 b h with h2 | h2
            · exact HQD.out b hb h2
            · have h' : wr.heap.size ≤ b := h2
              have := HO.out.lt b hb
              omega
          have hfr3 : Fr (leaF t m o qv FL) w (w2.alloc (.cells #[.int .i64 x.1, .int .i64 x.2] 82)) := HFR.out.trans hf3 fun b hb h => by
            rcases h with h | h
            · exact .inl h
            · rcases HQN.out b h with h2 | h2
              · exact .inr (.inr (.inr (.inl h2)))
              · omega
          have hxq := HT.out.qnum x (HI.out.sub x (List.mem_cons_self ..))
          have hwfx : (Lit.int .i64 x.2).wf = true := wf64 (by omega) (by unfold maxI at hxq; omega)
          have hbsz : w2.heap.size < (w2.alloc (.cells #[.int .i64 x.1, .int .i64 x.2] 82)).heap.size := heap_lt hbx
          have hqlen : q'.length < (x :: q1).length := by rw [g5.length_eq]; simp
          have hlk := look_hp (hp := hp) x.2
          clear g1 g2 g3 hun hf3
          generalize w2.alloc (.cells #[.int .i64 x.1, .int .i64 x.2] 82) = W3 at *
          have A2 := Lib.hid a2
          have HO3 := Lib.hid ho3
          have HQN2 := Lib.hid hqn2
          have HQD2 := Lib.hid hqd2
          have HFR3 := Lib.hid hfr3
          have HWX := Lib.hid hwfx
          have HG4 := Lib.hid g4
          have HG5 := Lib.hid g5
          have HBX := Lib.hid hbx
          have d0 := cellAt hbx 0 rfl
          have d1 := cellAt hbx 1 rfl
          have c03 := a2.obj.cell 0 rfl
          have lt3 := a2.obj.lt
          clear a2 ho3 hqn2 hqd2 hfr3 hwfx g4 g5 hbx hxq HP2 HPOP
          cases hgl : getL L x.2 with
          | none =>
            have hhp := (A2.out.gone x.2 hgl).1
            rw [hhp] at hlk
            have HK : Hid (((fun i => (hp i).map fun h => Value.pointer (some ⟨h, 0, none⟩)) x.2).getD (.pointer none) = .pointer none) := Lib.hid (by dsimp only; rw [hhp]; exact hlk)
            have hsk := HI.out.skip HT.out HG5.out HG4.out (fun l hl => by rw [hgl] at hl; cases hl)
            have HSK := Lib.hid hsk
            have HMD := Lib.hid (A2.out.map.fr (Fr.refl No W3).drew fun h => h)
            clear hhp hlk hsk hgl
            refine wp_region_still_tail 6 (by kernel_rfl) (by kernel_rfl) ?_
            simp only [List.take_succ_cons, List.take_zero, List.drop_succ_cons, List.drop_zero]
            change wpStill _ _ W3.drew _ _ _
            repeat (refine wpStill_step (fun K hK => ?_); go_simp; refine hK _ ?_; clear hK K)
            refine wpStill_nil ?_
            change wpList _ _ _ _ _ W3.drew
            go_wp2_with (at_lookup; refine wpList_look rfl _ _ 63 rfl 3 69 Try.underlying63 Try.underlying3 m _ rfl HMD.out x.2 rfl HWX.out _ (zero69 _) _ HK.out ?_)
            go_quiet (fail)
            go_wp2
            go_roundg q'.length
            case rel => exact ⟨u5, out, q', rfl, rfl, Lib.hid (Amid.fr0 (wr := W3) ⟨⟨qv2, L, A2.out, HSK.out, HQN2.out, HQD2.out⟩, HO3.out, HNEW.out, HFR3.out⟩ (by first | exact (Fr.refl No W3).drew.trans0 (Fr.drewN No _ _) | exact Fr.drewN No W3 _))⟩
            case measure => exact hqlen
          | some l =>
            obtain ⟨p, hpp, kv, hls, hFl⟩ := A2.out.ls x.2 l hgl
            rw [hpp] at hlk
            have HK : Hid (((fun i => (hp i).map fun h => Value.pointer (some ⟨h, 0, none⟩)) x.2).getD (.pointer none) = .pointer (some ⟨p, 0, none⟩)) := Lib.hid (by dsimp only; rw [hpp]; exact hlk)
            have HMD := Lib.hid (A2.out.map.fr (Fr.refl No W3).drew fun h => h)
            have b1 := hls.obj.cell 1 rfl
            have b2 := hls.obj.cell 2 rfl
            have bf := hls.obj.free 2
            have lp := hls.obj.lt
            have HGL := Lib.hid hgl
            have HPP := Lib.hid hpp
            have HLS := Lib.hid hls
            have HFL := Lib.hid hFl
            clear hpp hlk hgl hls hFl
            by_cases hd : l.due = x.1
            · cases htold : l.told with
              | true =>
                have hsk := HI.out.skip HT.out HG5.out HG4.out (fun l' hl _ => by rw [HGL.out] at hl; cases hl; exact htold)
                have HSK := Lib.hid hsk
                rw [htold] at b2
                have hdd : (l.due == x.1) = true := by simpa using hd
                have HDD := Lib.hid hd
                rw [hd] at b1
                clear hsk htold hdd hd
                refine wp_region_still_tail 6 (by kernel_rfl) (by kernel_rfl) ?_
                simp only [List.take_succ_cons, List.take_zero, List.drop_succ_cons, List.drop_zero]
                change wpStill _ _ W3.drew _ _ _
                repeat (refine wpStill_step (fun K hK => ?_); go_simp; refine hK _ ?_; clear hK K)
                refine wpStill_nil ?_
                change wpList _ _ _ _ _ W3.drew
                go_wp2_with (at_lookup; refine wpList_look rfl _ _ 63 rfl 3 69 Try.underlying63 Try.underlying3 m _ rfl HMD.out x.2 rfl HWX.out _ (zero69 _) _ HK.out ?_)
                go_quiet (fail)
                go_wp2
                go_roundg q'.length
                case rel => exact ⟨u5, out, q', rfl, rfl, Lib.hid (Amid.fr0 (wr := W3) ⟨⟨qv2, L, A2.out, HSK.out, HQN2.out, HQD2.out⟩, HO3.out, HNEW.out, HFR3.out⟩ (by first | exact (Fr.refl No W3).drew.trans0 (Fr.drewN No _ _) | exact Fr.drewN No W3 _))⟩
                case measure => exact hqlen
              | false =>
                have htk := HI.out.take HT.out HG5.out HG4.out hdue HGL.out hd htold
                have HTK := Lib.hid htk
                rw [htold] at b2
                rw [hd] at b1
                have HTD := Lib.hid htold
                clear htk htold hd
                refine wp_region_still_tail 6 (by kernel_rfl) (by kernel_rfl) ?_
                simp only [List.take_succ_cons, List.take_zero, List.drop_succ_cons, List.drop_zero]
                change wpStill _ _ W3.drew _ _ _
                repeat (refine wpStill_step (fun K hK => ?_); go_simp; refine hK _ ?_; clear hK K)
                refine wpStill_nil ?_
                change wpList _ _ _ _ _ W3.drew
                go_wp2_with (at_lookup; refine wpList_look rfl _ _ 63 rfl 3 69 Try.underlying63 Try.underlying3 m _ rfl HMD.out x.2 rfl HWX.out _ (zero69 _) _ HK.out ?_)
                go_quiet (fail)
                have hW4 : Fr No W3 (W3.drew.drewN nq) := (Fr.refl No W3).drew.trans0 (Fr.drewN No _ _)
                generalize W3.drew.drewN nq = W4 at *
                have hpF : FL x.2 p := (HFL.out p).2 (.inl rfl)
                have hls4 := HLS.out.fr hW4 (fun h => h) fun _ _ h => h
                have e2 := hls4.obj.cell 2 rfl
                have ef := hls4.obj.free 2
                have lp4 := hls4.obj.lt
                have hbx4 := hW4.heap HBX.out fun h => h
                have hfp : Fr (fun b => b = p) W4 (W4.setCell ⟨p, 2, none⟩ (.bool true)) := (Fr.refl (fun b => b = p) W4).setAt 2 _
                have npb : ¬ w2.heap.size = p := fun e => by
                  have := HLT.out p (.inr (.inr (.inr (.inr ⟨x.2, hpF⟩))))
                  omega
                have a5 := (A2.out.fr hW4 fun _ _ h => h).cells (f := fun l => { l with told := true }) HGL.out HPP.out (fun _ => rfl) hfp (fun kv h => h.set 2 (.bool true))
                have hbx5 := hfp.heap hbx4 npb
                have hF5 : Fr (leaF t m o qv FL) w (W4.setCell ⟨p, 2, none⟩ (.bool true)) := (HFR3.out.trans0 hW4).trans hfp fun b _ e => .inr (.inr (.inr (.inr ⟨x.2, by rw [show b = p from e]; exact hpF⟩)))
                have hup : ∀ b, u5.ownBlock = some b → ¬ b = p := fun b hb e => by
                  have := HNEW.out b hb
                  have := HLT.out p (.inr (.inr (.inr (.inr ⟨x.2, hpF⟩))))
                  omega
                have ho5 := (HO3.out.fr0 hW4).fr hfp hup
                have A5 := Lib.hid a5
                have HF5 := Lib.hid hF5
                have HO5 := Lib.hid ho5
                have HBX5 := Lib.hid hbx5
                have y2 := HLS.out.obj
                obtain ⟨i0, hi0, hz0, hz1, hz2⟩ := info_parts info3
                clear a5 hF5 ho5 hbx5 hbx4 hls4 b1 b2 bf c03 d0 d1 y2
                have hoL : out.length ≤ 1000 := by omega
                go_upto_region 10 with fail
                have hfs : Fr (fun b => b = p) W4 (W4.setCell ⟨p, 2, none⟩ (.bool true)) := hfp
                generalize W4.setCell ⟨p, 2, none⟩ (.bool true) = W5 at *
                have d1 := cellAt HBX5.out 1 rfl
                have lb5 := heap_lt HBX5.out
                have hnew := cells_new W5 [.int .i64 x.2] 3 (0, 0)
                clear e2 ef hfp hfs
                go_wp2_with (at_builtin; go_loud (refine wpList_append_f rfl _ _ 31 rfl 3 i0 _ 1 8 Try.underlying31 hi0 hz0 hz1 hz2 rfl (by decide) _ out rfl (HO5.out.alloc _) W5.heap.size 1 x.2 rfl hnew rfl ?c1 ?c2 ?c3 ?_))
                case c1 => intro u hu; simp [int1] at hu; subst hu; rfl
                case c2 => unfold maxLen; omega
                case c3 => omega
                intro g7 o7 cap7 w6 hs6 hg6 hb6 hlt6
                have hf6 : Fr (fun b => u5.ownBlock = some b) W5 w6 := ((Fr.refl _ W5).alloc _).trans ((Fr.refl _ _).grown hg6 fun k hk => .inl hk) fun _ _ h => h
                have hul : ∀ b, leaF t m o qv2 FL b → ¬ u5.ownBlock = some b := fun b hb hu => by
                  have hnb := HNEW.out b hu
                  rcases hb with h | h | h | h | ⟨i, h⟩
                  · have := HLT.out b (.inl h); omega
                  · have := HLT.out b (.inr (.inl h)); omega
                  · have := HLT.out b (.inr (.inr (.inl h))); omega
                  · exact HQD2.out b hu h
                  · have := HLT.out b (.inr (.inr (.inr (.inr ⟨i, h⟩)))); omega
                have a6 := A5.out.fr hf6 hul
                have hw5 : w.heap.size ≤ W5.heap.size := HF5.out.size
                have hg7 : ∀ b, (Value.slice (some ⟨g7, o7, none⟩) (out.length + 1) cap7).ownBlock = some b → u5.ownBlock = some b ∨ W5.heap.size ≤ b := fun b hb => by
                  obtain rfl : g7 = b := by simpa [Value.ownBlock] using hb
                  rcases hb6 with h | h
                  · exact .inl h
                  · right
                    have h' : g7 = W5.heap.size + 1 := by simpa using h
                    omega
                have hfin : Amid w w6 t m o qv hp FL T now (.slice (some ⟨g7, o7, none⟩) (out.length + 1) cap7) (out ++ [x.2]) q' := by
                  refine ⟨⟨qv2, _, a6, HTK.out, HQN2.out, fun b hb h => ?_⟩, by simpa using hs6, fun b hb => ?_, ⟨hf6.os.trans HF5.out.os, hf6.tape.trans HF5.out.tape, hf6.output.trans HF5.out.output, Nat.le_trans HF5.out.size hf6.size, fun b hb hnb => ?_⟩⟩
                  · rcases hg7 b hb with h2 | h2
                    · exact HQD2.out b h2 h
                    · have := A5.out.q.lt b h; omega
                  · rcases hg7 b hb with h2 | h2
                    · exact HNEW.out b h2
                    · omega
                  · rw [hf6.block b (Nat.lt_of_lt_of_le hb HF5.out.size) fun e => by have := HNEW.out b e; omega]
                    exact HF5.out.block b hb hnb
                have HFIN := Lib.hid hfin
                clear hf6 hul a6 hg7 hfin hs6 hg6 hb6 hnew d1
                go_wp2
                go_roundg q'.length
                case rel => exact ⟨_, out ++ [x.2], q', rfl, rfl, HFIN⟩
                case measure => exact hqlen
            · have hsk := HI.out.skip HT.out HG5.out HG4.out (fun l' hl hd' => by rw [HGL.out] at hl; cases hl; exact absurd hd' hd)
              have HSK := Lib.hid hsk
              have hdd : (l.due == x.1) = false := by simpa using hd
              clear hsk
              refine wp_region_still_tail 6 (by kernel_rfl) (by kernel_rfl) ?_
              simp only [List.take_succ_cons, List.take_zero, List.drop_succ_cons, List.drop_zero]
              change wpStill _ _ W3.drew _ _ _
              repeat (refine wpStill_step (fun K hK => ?_); go_simp; refine hK _ ?_; clear hK K)
              refine wpStill_nil ?_
              change wpList _ _ _ _ _ W3.drew
              go_wp2_with (at_lookup; refine wpList_look rfl _ _ 63 rfl 3 69 Try.underlying63 Try.underlying3 m _ rfl HMD.out x.2 rfl HWX.out _ (zero69 _) _ HK.out ?_)
              go_quiet (fail)
              go_wp2
              go_roundg q'.length
              case rel => exact ⟨u5, out, q', rfl, rfl, Lib.hid (Amid.fr0 (wr := W3) ⟨⟨qv2, L, A2.out, HSK.out, HQN2.out, HQD2.out⟩, HO3.out, HNEW.out, HFR3.out⟩ (by first | exact (Fr.refl No W3).drew.trans0 (Fr.drewN No _ _) | exact Fr.drewN No W3 _))⟩
              case measure => exact hqlen
        · have hmin := hI.heap.min hx0
          have hall : ∀ e ∈ x :: q1, now < e.1 := fun e he => by have := hmin e he; omega
          have HALL := Lib.hid hall
          clear a1 hI hqn hqd hout hnew hfr hs3 hmin hall
          go_wp2_with fail
          go_quiet (fail)
          have cS := sort_calls (wr.drewN nq) u5 out (HO.out.fr0 (Fr.drewN No wr nq)) (by omega)
          have CS := Lib.hid cS
          clear cS
          go_wp2_with (go_at_call 38; (with_reducible refine CS.out.mono ?_); rintro e w9 ⟨rfl, hs9, hf9⟩; have HS9 := Lib.hid hs9; have HF9 := Lib.hid hf9; clear hs9 hf9)
          go_ret
          obtain rfl := HNW.out
          exact Amid.end_ (HM.out.fr0 (Fr.drewN No wr nq)) HT.out HF.out HLT.out (by omega) HALL.out HS9.out HF9.out
end Go.Proofs.Ytlomeohcgjgpjaa
