/- The statement LeasePlays's function returns true, whatever its arguments are. -/
import Derived.Test.YtlomeohcgjgpjaaRfJ
namespace Go.Proofs.Ytlomeohcgjgpjaa
open Go Go.Proofs Go.RowKit
set_option maxRecDepth 100000

/-- What LeasePlays has behind i calls: both tables, apart from each other. -/
structure PlayI (w wr : World) (t tr i : Nat) (R : List LV) (F G : Nat → Prop) (v : Value) (P : List (LV × Value)) : Prop where
  lea : Lea i wr t R F
  rf : Rf wr tr v P G
  eq : P.map (·.1) = R
  fr : Fr No w wr
  fN : ∀ b, F b → w.heap.size ≤ b
  gN : ∀ b, G b → w.heap.size ≤ b
  apart : ∀ b, F b → ¬ G b
theorem PlayI.fr0 {w wr w2 : World} {t tr i : Nat} {R : List LV} {F G : Nat → Prop} {v : Value} {P : List (LV × Value)} (h : PlayI w wr t tr i R F G v P) (hf : Fr No wr w2) : PlayI w w2 t tr i R F G v P :=
  ⟨h.lea.fr0 hf, h.rf.fr0 hf, h.eq, h.fr.trans0 hf, h.fN, h.gN, h.apart⟩
/-- Behind a call of the program's table. -/
structure PlayA (w w3 : World) (t tr i : Nat) (R : List LV) (S : LAns × List LV) (kv mv : Value) (F' : Nat → Prop) (G : Nat → Prop) (v : Value) (P : List (LV × Value)) : Prop where
  lea : Lea (i + 1) w3 t S.2 F'
  eq : P.map (·.1) = R
  rf : Rf w3 tr v P G
  fr : Fr No w w3
  fN : ∀ b, F' b → w.heap.size ≤ b
  apart : ∀ b, F' b → ¬ G b
  gN : ∀ b, G b → w.heap.size ≤ b
  keys : SlF w3 9 1 strC kv S.1.keys
  told : SlF w3 3 1 int1 mv S.1.told
  kvG : ∀ b, kv.ownBlock = some b → ¬ G b
  mvG : ∀ b, mv.ownBlock = some b → ¬ G b
theorem PlayI.did {w w2 w3 : World} {t tr i : Nat} {R : List LV} {F G : Nat → Prop} {v : Value} {P : List (LV × Value)} (h : PlayI w w2 t tr i R F G v P) {o : LOp} {kv mv : Value} (hd : DoIn i w2 w3 t F R o kv mv) :
    (∃ F', PlayA w w3 t tr i R (stepR R o) kv mv F' G v P) ∧ Fr F w2 w3 := by
  obtain ⟨F', h1, h2, h3, h4, h5, h6, h7⟩ := hd
  have hs := h.fr.size
  have hsame : Fr No w w3 := h.fr.trans h2 fun j hj hf => absurd (h.fN j hf) (by omega)
  refine ⟨⟨F', h1, h.eq, h.rf.fr h2 fun b hg hf => h.apart b hf hg, hsame, fun b hb => (h3 b hb).elim (h.fN b) fun h => by omega, fun b hb hg => ?_, h.gN, h4, h6, fun b hb hg => ?_, fun b hb hg => ?_⟩, h2⟩
  · rcases h3 b hb with hf | hf
    · exact h.apart b hf hg
    · have := h.rf.lt b hg; omega
  · rcases (h5 b hb).2 with hf | hf
    · exact h.apart b hf hg
    · have := h.rf.lt b hg; omega
  · have := (h7 b hb).2
    have := h.rf.lt b hg
    omega
theorem PlayA.did {w w3 w4 : World} {t tr i : Nat} {R : List LV} {F' G : Nat → Prop} {v : Value} {P : List (LV × Value)} {S : LAns × List LV} {kv mv : Value} (h : PlayA w w3 t tr i R S kv mv F' G v P) (ha : RfTo w3 w4 tr S.2 G) :
    (∃ v' P', PlayI w w4 t tr (i + 1) S.2 F' (grow G w3 w4) v' P') ∧ SlF w4 9 1 strC kv S.1.keys ∧ SlF w4 3 1 int1 mv S.1.told := by
  obtain ⟨v', P', h1, h2, h3⟩ := ha
  have hs := h.fr.size
  refine ⟨⟨v', P', h.lea.fr h3 h.apart, h1, h2, h.fr.trans h3 fun j hj hg => absurd (h.gN j hg) (by omega), h.fN, fun b hb => hb.elim (h.gN b) fun h => by omega, fun b hb hg => ?_⟩, h.keys.fr h3 h.kvG, h.told.fr h3 h.mvG⟩
  rcases hg with hg | hg
  · exact h.apart b hb hg
  · have := h.lea.lt b hb; omega
set_option maxHeartbeats 16000000 in
theorem leasePlays_walk (w : World) (v : Value) (l : List LOp) (hv : SlR w 4 opC v l) (hok : OpsOk l) :
    Calls Try.prog 7 #[v] w fun e w' => e = .returned (.bool true) ∧ Fr No w w' := by
  obtain ⟨va, vc, rfl, h1, h2, h3⟩ := hv.shape
  have hN := New_calls w
  have HV := Lib.hid hv
  have HOK := Lib.hid hok
  have H3 := Lib.hid h3
  unfold maxLen at h2
  clear hv hok h3
  go_enter Try.func7, Try.ntmps7
  go_upto_region 2 with (go_at_call 22; (with_reducible refine hN.mono ?_); rintro e w1 ⟨t, F0, rfl, hL1, hw1, hF1⟩)
  have hb1 := alloc_at w1 (.cells #[.slice none 0 0] 55) w1.heap.size rfl
  have hf1 : Fr No w1 (w1.alloc (.cells #[.slice none 0 0] 55)) := (Fr.refl No w1).alloc _
  have hws := hw1.size
  have hlt1 := heap_lt hb1
  have hpi : ∃ F G v P, PlayI w (w1.alloc (.cells #[.slice none 0 0] 55)) t w1.heap.size 0 [] F G v P := by
    refine ⟨F0, fun b => b = w1.heap.size, .slice none 0 0, [], hL1.fr0 hf1, ⟨hb1, SlF.nil _ _ _ _, ⟨rfl, by simp [Value.ownBlock], by simp [Value.ownBlock]⟩, by simp, fun b hb => by rw [hb]; exact hlt1⟩, rfl, hw1.trans0 hf1, hF1, fun b hb => by omega, fun b hb e => ?_⟩
    have := hL1.lt b hb
    omega
  have HPI := Lib.hid hpi
  clear hpi hb1 hf1 hlt1 hL1 hw1 hF1 hN
  go_upto_region 4 with fail
  generalize w1.heap.size = tr at *
  generalize w1.alloc (.cells #[.slice none 0 0] 55) = w2 at *
  go_loopg [5] l.length (fun g s5 wr => ∃ i : Nat, s5 = .int .i64 i ∧ i + g = l.length ∧ i ≤ 200 ∧ Hid (∃ F G v P, PlayI w wr t tr i (stepsR [] (l.take i)) F G v P))
  case atStart => exact ⟨0, rfl, by omega, by omega, HPI⟩
  case round =>
    obtain ⟨i, rfl, hi, hi2, HP⟩ := hrel
    by_cases hend : i < l.length ∧ i < 200
    · obtain ⟨hil, hi9⟩ := hend
      cases gk with
      | zero => omega
      | succ g =>
        have hili : (i : Int) < (l.length : Int) := by omega
        have hi9i : (i : Int) < 200 := by omega
        have hi0 : 0 ≤ (i : Int) := by omega
        obtain ⟨F, G, rv, P, hpi⟩ := HP.out
        obtain ⟨gb, go, rfl⟩ := H3.out (by omega)
        obtain ⟨o, hx⟩ : ∃ o, l[i]? = some o := ⟨_, List.getElem?_eq_getElem hil⟩
        have hst := steps_take hx
        have how := HOK.out o (List.mem_of_getElem? hx)
        obtain ⟨c0, c1, c2, c3⟩ := (HV.out.fr0 hpi.fr).cells4 opC_length i hx rfl
        have hfa : Fr No wr (wr.alloc (.cells #[.int .i64 o.kind, .int .i64 o.id, .int .i64 o.n, .string o.key] 24)) := (Fr.refl No wr).alloc _
        have hba := alloc_at wr (.cells #[.int .i64 o.kind, .int .i64 o.id, .int .i64 o.n, .string o.key] 24) wr.heap.size rfl
        have hp2 := hpi.fr0 hfa
        have hdo := do_at (by omega) hp2.lea o how
        have hnG : ¬ G wr.heap.size := fun h => absurd (hpi.rf.lt _ h) (Nat.lt_irrefl _)
        have hnF : ¬ F wr.heap.size := fun h => absurd (hpi.lea.lt _ h) (Nat.lt_irrefl _)
        have hok2 := hpi.lea.ok
        have HP2 := Lib.hid hp2
        have HDO := Lib.hid hdo
        have HBA := Lib.hid hba
        have HNG := Lib.hid hnG
        have HNF := Lib.hid hnF
        have HOK2 := Lib.hid hok2
        have HWF := Lib.hid how
        generalize hRR : stepsR [] (l.take i) = R at *
        have hask := fun W v P G (h : Rf W tr v P G) (hR : P.map (·.1) = R) => show Calls Try.prog 23 #[.pointer (some ⟨tr, 0, none⟩), opV o] W (fun e w' => AskTo W w' tr R G o e) from hR ▸ asked_calls (n := 1000) (by omega) h (hR ▸ HOK2.out.up (by omega)) o
        unfold AskTo at hask
        have HASK := Lib.hid hask
        have HST := Lib.hid hst
        have HDID := Lib.hid fun kv mv w3 => HP2.out.did (o := o) (kv := kv) (mv := mv) (w3 := w3)
        clear hask hx hst how hfa hba hdo hnG hnF hok2 hpi hp2 HP hRR
        obtain ⟨kk, oi, on, okey⟩ := o
        unfold opV at HDO HASK
        dsimp only at *
        generalize hS : stepR R ⟨kk, oi, on, okey⟩ = S at *
        have HS := Lib.hid hS
        clear hS
        obtain ⟨⟨er, en, eks, etd⟩, R'⟩ := S
        dsimp only at *
        go_upto_region 7 with fail
        generalize wr.alloc (.cells #[.int .i64 kk, .int .i64 oi, .int .i64 on, .string okey] 24) = w3 at *
        have hba := HBA.out
        obtain ⟨x0, x1, x2, x3⟩ := cells4 hba
        have lb := heap_lt hba
        clear hba c0 c1 c2 c3
        go_upto_region 8 with (go_at_call 12; (with_reducible refine HDO.out.mono ?_); rintro e w4 ⟨ka, kc, ma, mc, rfl, HD⟩)
        obtain ⟨⟨F', hA⟩, hf4⟩ := HDID.out _ _ _ HD.out.2
        have hb4 := hf4.heap HBA.out HNF.out
        have hcal := HASK.out _ _ _ _ hA.rf hA.eq
        have HA := Lib.hid hA
        have HB4 := Lib.hid hb4
        have HCAL := Lib.hid hcal
        obtain ⟨y0, y1, y2, y3⟩ := cells4 hb4
        have ly := heap_lt hb4
        clear hA hf4 hb4 hcal HD HDO x0 x1 x2 x3 lb HBA HASK HDID
        go_upto_region 9 with (go_at_call 23; (with_reducible refine HCAL.out.mono ?_); rintro e w5 ⟨ra, rc, na, nc, rfl, HR5⟩)
        obtain ⟨h51, h52, h53⟩ := HR5.out
        obtain ⟨⟨rv', P', hpi5⟩, hk5, hm5⟩ := HA.out.did h53
        have hfg : Fr G w4 w5 := by obtain ⟨_, _, _, _, h⟩ := h53; exact h
        have hb5 := hfg.heap HB4.out HNG.out
        have heq5 : P'.map (·.1) = R' := hpi5.eq
        have hok5 : ROk (i + 1) R' := hpi5.lea.ok
        have hlen5 : P'.length ≤ 100000 := by have := hok5.len; rw [← heq5, List.length_map] at this; omega
        have hkl5 : ∀ p ∈ P', p.1.keys.length ≤ 100000 := fun p hp => by have := (hok5.klen p.1 (by rw [← heq5]; exact List.mem_map.2 ⟨p, hp, rfl⟩)).1; omega
        have hget := fun W (hW : Fr No w5 W) => get_at (by omega) (show Lea (i + 1) W t R' F' from hpi5.lea.fr0 hW) oi HWF.out.2.1
        have hrget := fun W (hW : Fr No w5 W) => rget_at (hpi5.rf.fr0 hW) hlen5 heq5 oi
        have hof := fun W (hW : Fr No w5 W) => (Of_at (hpi5.lea.fr0 hW) okey HWF.out.2.2.2).mono fun e w' (h : _ ∧ _) => (⟨h.1, h.2 ▸ Fr.refl No W⟩ : e = .returned (.int .i64 (ofR R' okey)) ∧ Fr No W w')
        have hrof := fun W (hW : Fr No w5 W) => (rof_calls (hpi5.rf.fr0 hW) hlen5 hkl5 okey).mono fun e w' (h : _ ∧ _) => (⟨by rw [← heq5]; exact h.1, h.2 ▸ Fr.refl No W⟩ : e = .returned (.int .i64 (ofR R' okey)) ∧ Fr No W w')
        have hover := fun W (hW : Fr No w5 W) => (Over_calls (by omega) (show Lea (i + 1) W t R' F' from hpi5.lea.fr0 hW)).mono fun e w' h => nums_at h
        have hrover := fun W (hW : Fr No w5 W) => (rover_calls (hpi5.rf.fr0 hW) hlen5).mono fun e w' h => nums_at (show Nums W w' (overR R') e by rw [← heq5]; exact h)
        have htx := fun W (hW : Fr No w5 W) => texts_calls W _ _ eks ((hk5.fr0 hW).toR strC_len) ((h51.fr0 hW).toR strC_len)
        have hnm := fun W (hW : Fr No w5 W) => nums_calls W _ _ etd ((hm5.fr0 hW).toR int1_len) ((h52.fr0 hW).toR int1_len)
        unfold lvW at hget hrget
        have HGET := Lib.hid hget
        have HRGET := Lib.hid hrget
        have HOF := Lib.hid hof
        have HROF := Lib.hid hrof
        have HOVER := Lib.hid hover
        have HROVER := Lib.hid hrover
        have HTX := Lib.hid htx
        have HNM := Lib.hid hnm
        have HPI5 := Lib.hid hpi5
        have HB5 := Lib.hid hb5
        clear heq5 hget hrget hof hrof hover hrover htx hnm hpi5 hok5 hlen5 hkl5 hk5 hm5 h51 h52 h53 hfg y0 y1 y2 y3 ly
        obtain ⟨y0, y1, y2, y3⟩ := cells4 hb5
        have ly := heap_lt hb5
        clear hb5
        generalize getA R' oi = gx at *
        obtain ⟨⟨xi, xt, xl, xk⟩, xe⟩ := gx
        dsimp only at *
        go_upto_region 10 with (go_at_call 16; (with_reducible refine (HGET.out _ (Fr.refl No w5)).mono ?_); rintro e w6 ⟨xa, xc, rfl, H6⟩)
        have hf7 : Fr No w5 (w6.alloc (.cells #[.int .i64 xi, .int .i64 xt, .int .i64 xl, .slice xa xk.length xc] 36)) := H6.out.2.alloc _
        have hx7 := alloc_at w6 (.cells #[.int .i64 xi, .int .i64 xt, .int .i64 xl, .slice xa xk.length xc] 36) w6.heap.size rfl
        have hk7 : SlF (w6.alloc (.cells #[.int .i64 xi, .int .i64 xt, .int .i64 xl, .slice xa xk.length xc] 36)) 9 1 strC (.slice xa xk.length xc) xk := H6.out.1.alloc _
        have hl7 : w6.heap.size < (w6.alloc (.cells #[.int .i64 xi, .int .i64 xt, .int .i64 xl, .slice xa xk.length xc] 36)).heap.size := heap_lt hx7
        generalize w6.alloc (.cells #[.int .i64 xi, .int .i64 xt, .int .i64 xl, .slice xa xk.length xc] 36) = w7 at *
        generalize w6.heap.size = xb at *
        have hb7 := hf7.heap HB5.out fun h => h
        have HF7 := Lib.hid hf7
        have HX7 := Lib.hid hx7
        have HK7 := Lib.hid hk7
        clear hf7 hx7 hk7 y0 y1 y2 y3 ly
        obtain ⟨y0, y1, y2, y3⟩ := cells4 hb7
        have ly := heap_lt hb7
        clear hb7
        go_upto_region 11 with (go_at_call 24; (with_reducible refine (HRGET.out _ HF7.out).mono ?_); rintro e w8 ⟨ya, yc, rfl, H8⟩)
        have hf9 : Fr No w7 (w8.alloc (.cells #[.int .i64 xi, .int .i64 xt, .int .i64 xl, .slice ya xk.length yc] 57)) := H8.out.2.alloc _
        have hy9 := alloc_at w8 (.cells #[.int .i64 xi, .int .i64 xt, .int .i64 xl, .slice ya xk.length yc] 57) w8.heap.size rfl
        have hk9 : SlF (w8.alloc (.cells #[.int .i64 xi, .int .i64 xt, .int .i64 xl, .slice ya xk.length yc] 57)) 9 1 strC (.slice ya xk.length yc) xk := H8.out.1.alloc _
        generalize w8.alloc (.cells #[.int .i64 xi, .int .i64 xt, .int .i64 xl, .slice ya xk.length yc] 57) = w9 at *
        generalize w8.heap.size = yb at *
        have HF9 := Lib.hid (HF7.out.trans0 hf9)
        have HS : Hid (∀ W, Fr No w9 W → W.cell? ⟨wr.heap.size, 3, none⟩ = some (.string okey) ∧ W.cell? ⟨xb, 0, none⟩ = some (.int .i64 xi) ∧ W.cell? ⟨xb, 1, none⟩ = some (.int .i64 xt) ∧ W.cell? ⟨xb, 2, none⟩ = some (.int .i64 xl) ∧ W.cell? ⟨xb, 3, none⟩ = some (.slice xa xk.length xc) ∧ W.cell? ⟨yb, 0, none⟩ = some (.int .i64 xi) ∧ W.cell? ⟨yb, 1, none⟩ = some (.int .i64 xt) ∧ W.cell? ⟨yb, 2, none⟩ = some (.int .i64 xl) ∧ W.cell? ⟨yb, 3, none⟩ = some (.slice ya xk.length yc)) := Lib.hid (fun W hW => by
          obtain ⟨_, _, _, p3⟩ := cells4 ((HF7.out.trans0 (hf9.trans0 hW)).heap HB5.out fun h => h)
          obtain ⟨q0, q1, q2, q3⟩ := cells4 ((hf9.trans0 hW).heap HX7.out fun h => h)
          obtain ⟨r0, r1, r2, r3⟩ := cells4 (hW.heap hy9 fun h => h)
          exact ⟨p3, q0, q1, q2, q3, r0, r1, r2, r3⟩)
        have HONE : Hid (∀ W, Fr No w9 W → Calls Try.prog 25 #[.agg #[.int .i64 xi, .int .i64 xt, .int .i64 xl, .slice xa xk.length xc], .agg #[.int .i64 xi, .int .i64 xt, .int .i64 xl, .slice ya xk.length yc]] W fun e w' => e = .returned (.bool true) ∧ Fr No W w') :=
          Lib.hid (fun W hW => one_calls W ⟨xi, xt, xl, xk⟩ xa ya xc yc ((HK7.out.fr0 (hf9.trans0 hW)).toR strC_len) ((hk9.fr0 hW).toR strC_len))
        clear hf9 hy9 hk9 y0 y1 y2 y3 ly hl7 HX7 HK7 HB5 HRGET HGET
        generalize wr.heap.size = ob at *
        generalize xk.length = xn at *
        have b1 := HS.out w9 (Fr.refl No w9)
        have b2 := HS.out w9.drew (Fr.refl No w9).drew
        have g2 : Fr No w9 w9.drew := (Fr.refl No w9).drew
        have lb1 := World.block_lt_of_cell? _ _ b1.1
        go_cut [117] (fun sc wx => sc = .bool false ∧ Hid (Fr No w9 wx))
        case first =>
          go_region_held3 (fun W => W.cell? ⟨ob, 3, none⟩ = some (.string okey) ∧ W.cell? ⟨xb, 0, none⟩ = some (.int .i64 xi) ∧ W.cell? ⟨xb, 1, none⟩ = some (.int .i64 xt) ∧ W.cell? ⟨xb, 2, none⟩ = some (.int .i64 xl) ∧ W.cell? ⟨xb, 3, none⟩ = some (.slice xa xn xc) ∧ W.cell? ⟨yb, 0, none⟩ = some (.int .i64 xi) ∧ W.cell? ⟨yb, 1, none⟩ = some (.int .i64 xt) ∧ W.cell? ⟨yb, 2, none⟩ = some (.int .i64 xl) ∧ W.cell? ⟨yb, 3, none⟩ = some (.slice ya xn yc))
            (first | with_reducible exact b1 | with_reducible exact b2 | with_reducible exact b3 | with_reducible exact b4 | with_reducible exact b5 | with_reducible exact b6 | with_reducible exact b7 | with_reducible exact b8 | with_reducible exact b9 | with_reducible exact b10)
            (first
              | (go_at_call 18; (with_reducible refine (HTX.out _ (HF9.out.trans0 g2)).mono ?_); rintro e v3 ⟨rfl, h3⟩; have g3 := g2.trans0 h3; have b3 := HS.out v3 g3)
              | (go_at_call 20; (with_reducible refine (HNM.out _ (HF9.out.trans0 g3)).mono ?_); rintro e v4 ⟨rfl, h4⟩; have g4 := g3.trans0 h4; have b4 := HS.out v4 g4)
              | (go_at_call 25; (with_reducible refine (HONE.out _ g4).mono ?_); rintro e v5 ⟨rfl, h5⟩; have g5 := g4.trans0 h5; have b5 := HS.out v5 g5)
              | (go_at_call 15; (with_reducible refine (HOF.out _ (HF9.out.trans0 g5)).mono ?_); rintro e v6 ⟨rfl, h6⟩; have g6 := g5.trans0 h6; have b6 := HS.out v6 g6)
              | (go_at_call 26; (with_reducible refine (HROF.out _ (HF9.out.trans0 g6)).mono ?_); rintro e v7 ⟨rfl, h7⟩; have g7 := g6.trans0 h7; have b7 := HS.out v7 g7)
              | (go_at_call 21; (with_reducible refine (HOVER.out _ (HF9.out.trans0 g7)).mono ?_); rintro e v8 ⟨oa1, oc1, rfl, HO8⟩; have g8 := g7.trans0 HO8.out.2; have b8 := HS.out v8 g8)
              | (go_at_call 27; (with_reducible refine (HROVER.out _ (HF9.out.trans0 g8)).mono ?_); rintro e v9 ⟨oa2, oc2, rfl, HO9⟩; have g9 := g8.trans0 HO9.out.2; have b9 := HS.out v9 g9; have HN9 := Lib.hid (nums_calls v9 _ _ _ ((HO8.out.1.fr0 HO9.out.2).toR int1_len) (HO9.out.1.toR int1_len)))
              | (go_at_call 20; (with_reducible refine HN9.out.mono ?_); rintro e v10 ⟨rfl, h10⟩; have g10 := g9.trans0 h10; have b10 := HS.out v10 g10))
          all_goals
            go_wp2
            go_meet
            case rel => exact ⟨rfl, Lib.hid g10⟩
        case rest =>
          obtain ⟨rfl, HX⟩ := hcut
          have hp9 := HPI5.out.fr0 (HF9.out.trans0 HX.out)
          have HP9 := Lib.hid hp9
          go_wp2
          go_roundg g
          case rel => exact ⟨i + 1, by go_num, by omega, by omega, Lib.hid ⟨_, _, _, _, by rw [HST.out]; exact HP9.out⟩⟩
          case measure => omega
    · obtain ⟨F, G, rv, P, hpi⟩ := HP.out
      have hok5 := hpi.lea.ok
      generalize stepsR [] (l.take i) = R at *
      have HI := Lib.hid hpi
      have hRl : R.length ≤ 200 := Nat.le_trans hok5.len hi2
      have hPl : P.length = R.length := by rw [← hpi.eq, List.length_map]
      have hgt := fun W (hW : Fr No wr W) => list_at (by omega) (hpi.lea.fr0 hW)
      have HGT := Lib.hid hgt
      have hi0 : 0 ≤ (i : Int) := by omega
      clear hpi hok5 hgt HP
      go_upto_region 4 with fail
      go_cut [31] (fun s wx => s = .bool false ∧ Hid (Fr No wr wx))
      case first =>
        by_cases hil : i < l.length
        · have e9 : i = 200 := by omega
          subst e9
          have hili : (200 : Int) < (l.length : Int) := by omega
          go_wp2
          go_meet
          case rel => exact ⟨rfl, Lib.hid (Fr.refl No wr)⟩
        · have hili : ¬ (i : Int) < (l.length : Int) := by omega
          go_wp2
          go_meet
          case rel => exact ⟨rfl, Lib.hid (Fr.refl No wr)⟩
      case rest =>
        obtain ⟨rfl, HX⟩ := hcut
        go_upto_region 14 with (go_at_call 11; (with_reducible refine (HGT.out _ HX.out).mono ?_); rintro e w5 ⟨a5, c5, rfl, H5⟩)
        obtain ⟨P2, hP2, hL2, hf5⟩ := H5.out
        have hi5 := HI.out.fr0 (HX.out.trans0 hf5)
        have ht5 := hi5.rf.cell
        have lt5 := World.block_lt_of_cell? _ _ ht5
        obtain ⟨ra, rc, rfl, r1, r2, r3⟩ := hi5.rf.sl.shape
        rw [hPl] at ht5
        have hP2l : P2.length = R.length := by rw [← hP2, List.length_map]
        have hsl := hL2.sl
        obtain ⟨l1, l2, l3⟩ : R.length ≤ c5 ∧ c5 ≤ maxLen ∧ (0 < R.length → ∃ g o, a5 = some ⟨g, o, none⟩) := by
          obtain ⟨a', c', he, h1, h2, h3⟩ := hsl.shape
          rw [hP2l] at he h1 h3
          cases he
          exact ⟨h1, h2, h3⟩
        unfold maxLen at r2 l2
        have HI5 := Lib.hid hi5
        have HL2 := Lib.hid hL2
        have HPL := Lib.hid hPl
        have HP2 := Lib.hid hP2
        have HP2L := Lib.hid hP2l
        have HR3 := Lib.hid r3
        have HL3 := Lib.hid l3
        have HFX := Lib.hid (HX.out.trans0 hf5)
        clear hi5 hL2 hPl hP2 hP2l r3 l3 hf5 hsl H5 r1
        go_upto_region 17 with fail
        go_loopg [20] R.length (fun g s20 wr => ∃ j : Nat, s20 = .int .i64 j ∧ j + g = R.length ∧ Hid (Fr No w5 wr))
        case atStart => exact ⟨0, rfl, by omega, Lib.hid (Fr.refl No w5)⟩
        case round =>
          obtain ⟨j, rfl, hj, HF⟩ := hrel
          cases gk with
          | zero =>
            have hjl : ¬ (j : Int) < (R.length : Int) := by omega
            go_wp2_with (go_at_call 14; (with_reducible refine (awake_calls _).mono ?_); rintro e w9 ⟨rfl, hf9⟩)
            go_ret
            exact ⟨rfl, HI5.out.fr.trans0 (HF.out.trans0 hf9)⟩
          | succ g =>
            have hjl : (j : Int) < (R.length : Int) := by omega
            have hj0 : 0 ≤ (j : Int) := by omega
            have hpl := HPL.out
            have hp2 := HP2L.out
            obtain ⟨⟨x, xv⟩, hx⟩ : ∃ p, P2[j]? = some p := ⟨_, List.getElem?_eq_getElem (by omega)⟩
            obtain ⟨⟨y, yv⟩, hy⟩ : ∃ p, P[j]? = some p := ⟨_, List.getElem?_eq_getElem (by omega)⟩
            obtain rfl : x = y := by
              have e1 : R[j]? = some x := by rw [← HP2.out, List.getElem?_map, hx]; rfl
              have e2 : R[j]? = some y := by rw [← HI5.out.eq, List.getElem?_map, hy]; rfl
              rw [e1] at e2
              exact Option.some.inj e2
            obtain ⟨ga, oa, rfl⟩ := HR3.out (by omega)
            obtain ⟨gb, ob, rfl⟩ := HL3.out (by omega)
            have hr := HI5.out.rf.fr0 HF.out
            have hl := HL2.out.fr0 HF.out
            have hls := hl.sl
            rw [← hp2] at hls
            obtain ⟨f0, f1, f2, f3⟩ := hls.cells4 lvC_length j hx rfl
            obtain ⟨q0, q1, q2, q3⟩ := hr.cells hy
            have hkx := (hl.keys _ (List.mem_of_getElem? hx)).1
            have hky := (hr.keys _ (List.mem_of_getElem? hy)).1
            obtain ⟨xa, xc, hxv, _, _, _⟩ := hkx.shape
            obtain ⟨ya, yc, hyv, _, _, _⟩ := hky.shape
            dsimp only at hxv hyv hkx hky f0 f1 f2 f3 q0 q1 q2 q3
            subst hxv
            subst hyv
            have ht := hr.cell
            rw [hpl] at ht
            have hone := fun W (hW : Fr No wr W) => one_calls W x xa ya xc yc ((hkx.fr0 hW).toR strC_len) ((hky.fr0 hW).toR strC_len)
            have lq := World.block_lt_of_cell? _ _ q0
            have lf := World.block_lt_of_cell? _ _ f0
            have lt := World.block_lt_of_cell? _ _ ht
            have HONE := Lib.hid hone
            obtain ⟨xi, xt, xl, xk⟩ := x
            unfold lvW at HONE
            dsimp only at *
            generalize xk.length = xn at *
            have HS : Hid (∀ W, Fr No wr W → W.cell? ⟨tr, 0, none⟩ = some (.slice (some ⟨ga, oa, none⟩) R.length rc) ∧ W.cell? ⟨ga, oa + j * 4, none⟩ = some (.int .i64 xi) ∧ W.cell? ⟨ga, oa + j * 4 + 1, none⟩ = some (.int .i64 xt) ∧ W.cell? ⟨ga, oa + j * 4 + 2, none⟩ = some (.int .i64 xl) ∧ W.cell? ⟨ga, oa + j * 4 + 3, none⟩ = some (.slice ya xn yc) ∧ W.cell? ⟨gb, ob + j * 4, none⟩ = some (.int .i64 xi) ∧ W.cell? ⟨gb, ob + j * 4 + 1, none⟩ = some (.int .i64 xt) ∧ W.cell? ⟨gb, ob + j * 4 + 2, none⟩ = some (.int .i64 xl) ∧ W.cell? ⟨gb, ob + j * 4 + 3, none⟩ = some (.slice xa xn xc)) := Lib.hid fun W hW => ⟨hW.cell0 ht, hW.cell0 q0, hW.cell0 q1, hW.cell0 q2, hW.cell0 q3, hW.cell0 f0, hW.cell0 f1, hW.cell0 f2, hW.cell0 f3⟩
            have b1 := HS.out wr (Fr.refl No wr)
            have b2 := HS.out wr.drew (Fr.refl No wr).drew
            have g2 : Fr No wr wr.drew := (Fr.refl No wr).drew
            clear hx hy hr hl hls hkx hky hone hpl hp2
            go_upto_region 19 with fail
            go_cut [146] (fun s wx => s = .bool false ∧ Hid (Fr No wr wx))
            case first =>
              go_region_held3 (fun W => W.cell? ⟨tr, 0, none⟩ = some (.slice (some ⟨ga, oa, none⟩) R.length rc) ∧ W.cell? ⟨ga, oa + j * 4, none⟩ = some (.int .i64 xi) ∧ W.cell? ⟨ga, oa + j * 4 + 1, none⟩ = some (.int .i64 xt) ∧ W.cell? ⟨ga, oa + j * 4 + 2, none⟩ = some (.int .i64 xl) ∧ W.cell? ⟨ga, oa + j * 4 + 3, none⟩ = some (.slice ya xn yc) ∧ W.cell? ⟨gb, ob + j * 4, none⟩ = some (.int .i64 xi) ∧ W.cell? ⟨gb, ob + j * 4 + 1, none⟩ = some (.int .i64 xt) ∧ W.cell? ⟨gb, ob + j * 4 + 2, none⟩ = some (.int .i64 xl) ∧ W.cell? ⟨gb, ob + j * 4 + 3, none⟩ = some (.slice xa xn xc))
                (first | with_reducible exact b1 | with_reducible exact b2 | with_reducible exact b3)
                (first | (go_at_call 25; (with_reducible refine (HONE.out _ g2).mono ?_); rintro e w3 ⟨rfl, hf3⟩; have g3 := g2.trans0 hf3; have b3 := HS.out w3 g3))
              all_goals
                go_wp2
                go_meet
                case rel => exact ⟨rfl, Lib.hid g3⟩
            case rest =>
              obtain ⟨rfl, HX2⟩ := hcut
              go_wp2
              go_roundg g
              case rel => exact ⟨j + 1, by go_num, by omega, Lib.hid (HF.out.trans0 HX2.out)⟩
              case measure => omega
end Go.Proofs.Ytlomeohcgjgpjaa
