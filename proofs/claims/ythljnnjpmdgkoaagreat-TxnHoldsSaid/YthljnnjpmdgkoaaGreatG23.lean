/- The document's Right: whether a state may be. The condition: lists and keys are not too long. -/
import Derived.Test.YthljnnjpmdgkoaaGreatG22
import Derived.Test.YthljnnjpmdgkoaaGreatG18
namespace Go.Proofs.YthljnnjpmdgkoaaGreat
open Go Go.Proofs Go.RowKit
set_option maxRecDepth 100000
theorem Calls.cls {P : Program} {f : FuncId} {args : Array Value} {B W : World} {v : Value} (h : Calls P f args W fun e w' => e = .returned v ∧ Fr No W w') (hW : Fr No B W) : Calls P f args W fun e w' => e = .returned v ∧ Fr No B w' := h.mono fun _ _ h => ⟨h.1, hW.trans0 h.2⟩
def RightR (D : Doc) (w : World) (e : Ending) (w' : World) : Prop := ∃ b, e = .returned (.bool b) ∧ (b = true ↔ zbe D) ∧ Fr No w w'
theorem RightR.no {D : Doc} {w w' : World} {b : Bool} (hb : b = false) (h : ¬ zbe D) (hf : Fr No w w') : RightR D w (.returned (.bool b)) w' := ⟨b, rfl, ⟨fun e => (by rw [hb] at e; cases e), fun e => absurd e h⟩, hf⟩
theorem RightR.yes {D : Doc} {w w' : World} {b : Bool} (h : b = true ↔ zbe D) (hf : Fr No w w') : RightR D w (.returned (.bool b)) w' := ⟨b, rfl, h, hf⟩
set_option maxHeartbeats 16000000 in
theorem zis (w : World) (D : Doc) (vk ve : Value) (hD : DocR w D vk ve) (hsm : DocSm D) :
 Calls Tryz.prog 25 #[docV D vk ve] w (RightR D w) := by
 obtain ⟨ka, kcap, rfl, hk1, hk2, hk3⟩ := hD.kvs.shape; obtain ⟨ea, ecap, rfl, he1, he2, he3⟩ := hD.evs.shape; have hlen := hsm.len; have hb1 := zad w (Obj.cells #[.int .i64 D.rev, .int .i64 D.mark, .slice ka D.kvs.length kcap, .slice ea D.events.length ecap] 30) _ rfl; have hf1 : Fr No w (w.alloc (Obj.cells #[.int .i64 D.rev, .int .i64 D.mark, .slice ka D.kvs.length kcap, .slice ea D.events.length ecap] 30)) := (Fr.refl No w).alloc _; have HD := H_ (hD.fr0 hf1); have HSM := H_ hsm; have HK3 := H_ hk3; have HE3 := H_ he3; have HB1 := H_ hb1; have HF1 := H_ hf1; clear hD hsm hk3 he3 hb1 hf1; unfold docV; by_cases hm0 : D.mark < 0
 · have hm0' : decide (D.mark < 0) = true := decide_eq_true hm0
   have HN : Hid (¬ zbe D) := H_ (fun h => by have := h.m0; omega); clear hm0; go_enter Tryz.func25, Tryz.ntmps25; go_wp2; go_ret; exact RightR.no rfl HN.out HF1.out
 have hm0' : decide (D.mark < 0) = false := decide_eq_false hm0
 by_cases hm1 : D.rev < D.mark
 · have hm1' : decide (D.mark > D.rev) = true := decide_eq_true hm1
   have HN : Hid (¬ zbe D) := H_ (fun h => by have := h.mr; omega); clear hm1; go_enter Tryz.func25, Tryz.ntmps25; go_wp2; go_ret; exact RightR.no rfl HN.out HF1.out
 have hm1' : decide (D.mark > D.rev) = false := decide_eq_false hm1
 by_cases hm2 : 1099511627776 < D.rev
 · have hm2' : decide (D.rev > 1099511627776) = true := decide_eq_true hm2
   have HN : Hid (¬ zbe D) := H_ (fun h => by have := h.top; omega); clear hm2; go_enter Tryz.func25, Tryz.ntmps25; go_wp2; go_ret; exact RightR.no rfl HN.out HF1.out
 have hm2' : decide (D.rev > 1099511627776) = false := decide_eq_false hm2
 go_enter Tryz.func25, Tryz.ntmps25; go_wp2; generalize w.alloc (Obj.cells #[.int .i64 D.rev, .int .i64 D.mark, .slice ka D.kvs.length kcap, .slice ea D.events.length ecap] 30) = W1 at *; have hws : w.heap.size < W1.heap.size := zaa HB1.out
 go_loopg [3, 4] D.kvs.length (fun g s3 s4 wr => ∃ i : Nat, s3 = .int .i64 (freshK D i : Int) ∧ s4 = .int .i64 i ∧ i + g = D.kvs.length ∧ Hid (∀ j k, j < i → D.kvs[j]? = some k → KvOk D j k) ∧ Hid (Fr No W1 wr))
 case atStart => exact ⟨0, rfl, rfl, by simp, H_ (fun j k h => absurd h (Nat.not_lt_zero _)), H_ (Fr.refl No W1)⟩
 case round =>
  obtain ⟨i, rfl, rfl, hi, HOK, HF⟩ := hrel; have hfk := ztw D i; have hb := HF.out.heap HB1.out id; have lb := zaa hb; obtain ⟨b0, b1, b2, b3⟩ := cells4 hb
  cases gk with
  | zero =>
    have hil : ¬ (i : Int) < (D.kvs.length : Int) := (by omega); have hie : i = D.kvs.length := (by omega); subst hie; have hks : KSorted D.kvs := zjq fun i k k' hi hk hk' => (HOK.out i k (List.getElem?_eq_some_iff.1 hk).1 hk).up k' hi hk'; have HKS := H_ hks; have HOKK : Hid (∀ j k, D.kvs[j]? = some k → KvOk D j k) := H_ fun j k hk => HOK.out j k (List.getElem?_eq_some_iff.1 hk).1 hk; obtain ⟨fst, hfst⟩ : ∃ fst : Int, max D.mark 1 = fst := ⟨_, rfl⟩; have HFST := H_ hfst; have hf1 : 1 ≤ fst := (by omega); have hf2 : fst ≤ 1099511627776 := (by omega); have hr0 : revAt D 0 = fst - 1 := (by unfold revAt; rw [if_pos rfl, hfst]); have HR0 := H_ hr0; have hO0 : SlR wr 6 kvC (.slice ka D.kvs.length kcap) (foldTo D 0) := (by rw [znz]; exact HD.out.kvs.fr0 HF.out); have HO0 := H_ hO0; clear hks hr0 hO0 hb HOK; generalize hfkd : freshK D D.kvs.length = fk at *; have HFKD := H_ hfkd
    clear hfkd; go_wp2
    go_loopg [3, 6, 7, 8] D.events.length (fun g s3 s6 s7 s8 wr => ∃ (i : Nat) (o : Value), s3 = .int .i64 ((fk : Int) - (freshE D i : Int)) ∧ s6 = .int .i64 (revAt D i) ∧ s7 = o ∧ s8 = .int .i64 i ∧ i + g = D.events.length ∧ 0 ≤ revAt D i ∧ revAt D i ≤ 1099511627776 + (i : Int) ∧ Hid (∀ j x, j < i → D.events[j]? = some x → EvOk D j x) ∧ Hid (SlR wr 6 kvC o (foldTo D i)) ∧ Hid (Fr No W1 wr))
    case atStart =>
     have hz : freshE D 0 = 0 := rfl; exact ⟨0, _, by rw [hz]; go_num, by rw [HR0.out], rfl, rfl, by simp, by rw [HR0.out]; omega, by rw [HR0.out]; omega, H_ (fun j x h => absurd h (Nat.not_lt_zero _)), HO0, HF⟩
    case round =>
     clear b0 b1 b2 b3 lb HF HO0; obtain ⟨i, o, rfl, rfl, rfl, rfl, hi, hra0, hra1, HOK, HO, HF⟩ := hrel; have hfe := ztx D i; have hb := HF.out.heap HB1.out id; have lb := zaa hb; obtain ⟨b0, b1, b2, b3⟩ := cells4 hb
     cases gk with
     | zero =>
       have hil : ¬ (i : Int) < (D.events.length : Int) := (by omega); have hie : i = D.events.length := (by omega); subst hie; have HEVS : Hid (∀ j x, D.events[j]? = some x → EvOk D j x) := H_ fun j x hx => HOK.out j x (List.getElem?_eq_some_iff.1 hx).1 hx; clear hb HOK HO; generalize hfed : freshE D D.events.length = fe at *; generalize hrad : revAt D D.events.length = ra at *; have HFED := H_ hfed; have HRAD := H_ hrad; clear hfed hrad; by_cases hl : ra = D.rev
       · have hl' : (ra == D.rev) = true := beq_iff_eq.2 hl
         have HOKR : Hid ((((fk : Int) - (fe : Int)) == 0) = true ↔ zbe D) := H_ (by
          rw [beq_iff_eq]
          constructor
          · intro h
            exact ⟨by omega, by omega, by omega, HOKK.out, HEVS.out, by rw [HRAD.out]; exact hl, by rw [HFKD.out, HFED.out]; omega⟩
          intro h
          have := h.fresh; rw [HFKD.out, HFED.out] at this; omega)
         clear hl; go_wp2; go_ret; exact RightR.yes HOKR.out (HF1.out.trans0 HF.out)
       have hl' : (ra == D.rev) = false := beq_eq_false_iff_ne.2 hl
       have HN : Hid (¬ zbe D) := H_ (fun h => hl (by rw [← HRAD.out]; exact h.last)); clear hl; go_wp2; go_ret; exact RightR.no rfl HN.out (HF1.out.trans0 HF.out)
     | succ g =>
       have hil : (i : Int) < (D.events.length : Int) := (by omega); obtain ⟨x, hx⟩ : ∃ x, D.events[i]? = some x := ⟨_, List.getElem?_eq_getElem (by omega)⟩; obtain ⟨ga, go, rfl⟩ := HE3.out (by omega); have hua := HD.out.evs.fr0 HF.out; have x0 := hua.cell0 zab i hx rfl; have x1 := hua.cell zab i 1 hx rfl; have x2 := hua.cell zab i 2 hx rfl; have x3 := hua.cell zab i 3 hx rfl; have x4 := hua.cell zab i 4 hx rfl; have x5 := hua.cell zab i 5 hx rfl; have x6 := hua.cell zab i 6 hx rfl; have x7 := hua.cell zab i 7 hx rfl; have x8 := hua.cell zab i 8 hx rfl; have x9 := hua.cell zab i 9 hx rfl; have x10 := hua.cell zab i 10 hx rfl; have x11 := hua.cell zab i 11 hx rfl; have x12 := hua.cell zab i 12 hx rfl; have lf := World.block_lt_of_cell? _ _ x0; have hsx := HSM.out.evs x (List.mem_of_getElem? hx); have hrs := zjf hx; have hfm := zoa hx; have hfd := zob hx; have hfl := zrb D i
       have hfs := zki HKS.out i; have hfe1 := zny D hx; have hnok := fun (h : zbe D) => h.evs i x hx; have HOO := HO.out; obtain ⟨o1, o2, rfl, ho1, ho2, _⟩ := HOO.shape; clear HOO; have hC70 := fun W (hW : Fr No wr W) => zhp W x (.slice ka D.kvs.length kcap) D.kvs (HD.out.kvs.fr0 (HF.out.trans0 hW)) (by omega) hsx.1 hsx.2 D.mark ⟨by omega, by omega⟩; have hC72 := fun W (hW : Fr No wr W) => zgs W _ _ (HO.out.fr0 hW) (by omega) x.kv.key; have hC71 := fun W => zfw W x ((hasL (foldTo D i) x.kv.key).getD kv0) hsx.1 x.kv.mod; have hC73 := fun W (hW : Fr No wr W) => zfx W _ _ (HO.out.fr0 hW) (by omega) x; rw [zpx hfs] at hC73; have HX := H_ hx; have HRS := H_ hrs; have HFM := H_ hfm; have HFD := H_ hfd; have HFE1 := H_ hfe1; have HNOK := H_ hnok; generalize hmkd : zfq x D.kvs D.mark = mk at *; generalize hnw : (hasL (foldTo D i) x.kv.key).getD kv0 = nw at *
       generalize hmdd : madeB x nw x.kv.mod = md at *; have HMK := H_ hmkd; have HNW := H_ hnw; have HMD := H_ hmdd; unfold evV at hC70 hC71 hC73; unfold kvV at hC71 hC72; clear hx hrs hfm hfd hfe1 hnok hua hsx hfs hmkd hnw hmdd; obtain ⟨kd, ⟨p1, p2, p3, p4, p5, p6⟩, ⟨q1, q2, q3, q4, q5, q6⟩⟩ := x; obtain ⟨n1, n2, n3, n4, n5, n6⟩ := nw; dsimp only at x0 x1 x2 x3 x4 x5 x6 x7 x8 x9 x10 x11 x12 hC70 hC71 hC72 hC73 HRS HFM HFD HFE1 HNOK HMK HNW HMD; have HC70 := H_ hC70; have HC71 := H_ hC71; have HC72 := H_ hC72; have HC73 := H_ hC73; clear hC70 hC71 hC72 hC73; generalize hra : revAt D i = ra at *; have HRA := H_ hra; clear hra; go_upto_region 18 with fail
       have hW2 : Fr No wr (wr.alloc (Obj.cells #[.int .i64 kd, .string p1, .string p2, .int .i64 p3, .int .i64 p4, .int .i64 p5, .int .i64 p6, .string q1, .string q2, .int .i64 q3, .int .i64 q4, .int .i64 q5, .int .i64 q6] 101)) := (Fr.refl No wr).alloc _; have hn1 := zad wr (Obj.cells #[.int .i64 kd, .string p1, .string p2, .int .i64 p3, .int .i64 p4, .int .i64 p5, .int .i64 p6, .string q1, .string q2, .int .i64 q3, .int .i64 q4, .int .i64 q5, .int .i64 q6] 101) _ rfl; have hb2 := zal hb (Obj.cells #[.int .i64 kd, .string p1, .string p2, .int .i64 p3, .int .i64 p4, .int .i64 p5, .int .i64 p6, .string q1, .string q2, .int .i64 q3, .int .i64 q4, .int .i64 q5, .int .i64 q6] 101)
       generalize hwx : wr.alloc (Obj.cells #[.int .i64 kd, .string p1, .string p2, .int .i64 p3, .int .i64 p4, .int .i64 p5, .int .i64 p6, .string q1, .string q2, .int .i64 q3, .int .i64 q4, .int .i64 q5, .int .i64 q6] 101) = W2 at *; generalize hnb : wr.heap.size = nb at *; obtain ⟨y0, y1, y2, y3, y4, y5, y6, y7, y8, y9, y10, y11, y12⟩ := cells13 hn1; obtain ⟨z0, z1, z2, z3⟩ := cells4 hb2; have ly := zaa hn1; have lz := zaa hb2; have HN1 := H_ hn1; have HB2 := H_ hb2; have HW2 := H_ hW2; have HWX := H_ hwx; have HNB := H_ hnb; clear hn1 hb2 hW2 hwx hnb hb b0 b1 b2 b3 x0 x1 x2 x3 x4 x5 x6 x7 x8 x9 x10 x11 x12 lf lb; by_cases hlo : p4 < fst
       · have hlo' : decide (p4 < fst) = true := decide_eq_true hlo
         have HN : Hid (¬ zbe D) := H_ (fun h => by have h1 := (HNOK.out h).lo; rw [HFST.out] at h1; dsimp only at h1; omega); go_wp2; go_ret; exact RightR.no rfl HN.out (HF1.out.trans0 (HF.out.trans0 HW2.out))
       have hlo' : decide (p4 < fst) = false := decide_eq_false hlo
       by_cases hge : p4 < ra
       · have hge' : decide (p4 < ra) = true := decide_eq_true hge
         have HN : Hid (¬ zbe D) := H_ (fun h => by have h1 := (HNOK.out h).ge; rw [HRA.out] at h1; dsimp only at h1; omega); go_wp2; go_ret; exact RightR.no rfl HN.out (HF1.out.trans0 (HF.out.trans0 HW2.out))
       have hge' : decide (p4 < ra) = false := decide_eq_false hge
       by_cases hle : ra + 1 < p4
       · have hle' : decide (p4 > ra + 1) = true := decide_eq_true hle
         have HN : Hid (¬ zbe D) := H_ (fun h => by have h1 := (HNOK.out h).le; rw [HRA.out] at h1; dsimp only at h1; omega); go_wp2; go_ret; exact RightR.no rfl HN.out (HF1.out.trans0 (HF.out.trans0 HW2.out))
       have hle' : decide (p4 > ra + 1) = false := decide_eq_false hle
       go_upto_block 4 with fail
       go_cut [10] (fun _ wx => Hid (∀ j y, j < i → D.events[j]? = some y → y.kv.mod = p4 → keq y.kv.key p1 = false) ∧ Hid (Fr No W2 wx))
       case first =>
        go_wp2_with fail
        go_loopg [10] i (fun g s10 wx => ∃ j : Nat, s10 = .int .i64 j ∧ j + g = i ∧ Hid (∀ j' y, j' < j → D.events[j']? = some y → y.kv.mod = p4 → keq y.kv.key p1 = false) ∧ Hid (Fr No W2 wx))
        case atStart => exact ⟨0, rfl, by simp, H_ (fun j' y h => absurd h (Nat.not_lt_zero _)), H_ (Fr.refl No W2)⟩
        case round =>
         obtain ⟨j, rfl, hj, HU, HQ⟩ := hrel
         cases gk with
         | zero =>
           have hjl : ¬ (j : Int) < (i : Int) := (by omega); have hji : j = i := (by omega); subst hji; go_wp2; go_meet
           case rel => exact ⟨HU, HQ⟩
         | succ g' =>
           have hjl : (j : Int) < (i : Int) := (by omega); obtain ⟨z, hz⟩ : ∃ z, D.events[j]? = some z := ⟨_, List.getElem?_eq_getElem (by omega)⟩; have hjd : (j : Int) < (D.events.length : Int) := (by omega)
           have HS2 : Hid (∀ W, Fr No W2 W → W.cell? ⟨w.heap.size, 3, none⟩ = some (.slice (some ⟨ga, go, none⟩) D.events.length ecap) ∧ W.cell? ⟨ga, go + j * 13 + 1, none⟩ = some (.string z.kv.key) ∧ W.cell? ⟨ga, go + j * 13 + 4, none⟩ = some (.int .i64 z.kv.mod) ∧ W.cell? ⟨nb, 1, none⟩ = some (.string p1)) := H_ (fun W hW => by
            have hh := HD.out.evs.fr0 (HF.out.trans0 (HW2.out.trans0 hW)); exact ⟨hW.cell0 z3, hh.cell zab j 1 hz rfl, hh.cell zab j 4 hz rfl, hW.cell0 y1⟩)
           have HZ := H_ hz; clear hz; by_cases hme : z.kv.mod = p4
           · have hme' : (z.kv.mod == p4) = true := beq_iff_eq.2 hme
             cases hke : keq z.kv.key p1 with
             | true =>
               have hke' : (z.kv.key.toList == p1.toList) = true := hke; have HN : Hid (¬ zbe D) := H_ (fun h => by have h1 := (HNOK.out h).one j z (by omega) HZ.out hme; dsimp only at h1; rw [hke] at h1; cases h1); clear hme hke; go_upto_region 24 with fail; refine zas (C := fun W => Fr No W2 W) (by kernel_rfl) (by kernel_rfl) (HQ.out.drew) ?_
               repeat (refine (wpQuiet_step (fun K hK => ?_) : _)
                       go_simp
                       first
                        | (refine hK _ ?_; clear hK K)
                        | (apply Exists.intro
                           refine ⟨fun W hW => ?_, hK _ ?_⟩
                           (first
                             | exact rfl
                             | (obtain ⟨c1, c2, c3, c4⟩ := HS2.out W hW; go_simp; exact rfl)
                           )
                           clear hK K))
               refine (wpQuiet_nil ?_ : _); intro w9 hw9; go_wp2; go_ret; exact RightR.no rfl HN.out (HF1.out.trans0 (HF.out.trans0 (HW2.out.trans0 hw9)))
             | false =>
               have hke' : (z.kv.key.toList == p1.toList) = false := hke
               have HU2 : Hid (∀ j' y, j' < j + 1 → D.events[j']? = some y → y.kv.mod = p4 → keq y.kv.key p1 = false) := H_ (fun j' y h hy hm => by
                rcases Nat.lt_or_ge j' j with h2 | h2
                · exact HU.out j' y h2 hy hm
                have e : j' = j := (by omega)
                subst e; rw [HZ.out] at hy; cases hy
                exact hke)
               clear hme hke; go_upto_region 24 with fail; refine zas (C := fun W => Fr No W2 W) (by kernel_rfl) (by kernel_rfl) (HQ.out.drew) ?_
               repeat (refine (wpQuiet_step (fun K hK => ?_) : _)
                       go_simp
                       first
                        | (refine hK _ ?_; clear hK K)
                        | (apply Exists.intro
                           refine ⟨fun W hW => ?_, hK _ ?_⟩
                           (first
                             | exact rfl
                             | (obtain ⟨c1, c2, c3, c4⟩ := HS2.out W hW; go_simp; exact rfl)
                           )
                           clear hK K))
               refine (wpQuiet_nil ?_ : _); intro w9 hw9; go_wp2; go_roundg g'
               case rel => exact ⟨j + 1, by go_num, by omega, HU2, H_ hw9⟩
               case measure => omega
           have hme' : (z.kv.mod == p4) = false := beq_eq_false_iff_ne.2 hme
           have HU2 : Hid (∀ j' y, j' < j + 1 → D.events[j']? = some y → y.kv.mod = p4 → keq y.kv.key p1 = false) := H_ (fun j' y h hy hm => by
            rcases Nat.lt_or_ge j' j with h2 | h2
            · exact HU.out j' y h2 hy hm
            have e : j' = j := (by omega)
            subst e; rw [HZ.out] at hy; cases hy
            exact absurd hm hme)
           clear hme; go_upto_region 24 with fail; refine zas (C := fun W => Fr No W2 W) (by kernel_rfl) (by kernel_rfl) (HQ.out.drew) ?_
           repeat (refine (wpQuiet_step (fun K hK => ?_) : _)
                   go_simp
                   first
                    | (refine hK _ ?_; clear hK K)
                    | (apply Exists.intro
                       refine ⟨fun W hW => ?_, hK _ ?_⟩
                       (first
                         | exact rfl
                         | (obtain ⟨c1, c2, c3, c4⟩ := HS2.out W hW; go_simp; exact rfl)
                       )
                       clear hK K))
           refine (wpQuiet_nil ?_ : _); intro w9 hw9; go_wp2; go_roundg g'
           case rel => exact ⟨j + 1, by go_num, by omega, HU2, H_ hw9⟩
           case measure => omega
       case rest =>
        obtain ⟨HU, HQ⟩ := hcut; have HQW := H_ (HW2.out.trans0 HQ.out); have v0 := HQ.out.cell0 y0; have v1 := HQ.out.cell0 y1; have v2 := HQ.out.cell0 y2; have v3 := HQ.out.cell0 y3; have v4 := HQ.out.cell0 y4; have v5 := HQ.out.cell0 y5; have v6 := HQ.out.cell0 y6; have v7 := HQ.out.cell0 y7; have v8 := HQ.out.cell0 y8; have v9 := HQ.out.cell0 y9; have v10 := HQ.out.cell0 y10; have v11 := HQ.out.cell0 y11; have v12 := HQ.out.cell0 y12; have u0 := HQ.out.cell0 z0; have u1 := HQ.out.cell0 z1; have u2 := HQ.out.cell0 z2; have u3 := HQ.out.cell0 z3; have lv := World.block_lt_of_cell? _ _ v0; have lu := World.block_lt_of_cell? _ _ u0
        have HS2 : Hid (∀ W, Fr No W2 W → W.cell? ⟨nb, 0, none⟩ = some (.int .i64 kd) ∧ W.cell? ⟨nb, 1, none⟩ = some (.string p1) ∧ W.cell? ⟨nb, 2, none⟩ = some (.string p2) ∧ W.cell? ⟨nb, 3, none⟩ = some (.int .i64 p3) ∧ W.cell? ⟨nb, 4, none⟩ = some (.int .i64 p4) ∧ W.cell? ⟨nb, 5, none⟩ = some (.int .i64 p5) ∧ W.cell? ⟨nb, 6, none⟩ = some (.int .i64 p6) ∧ W.cell? ⟨nb, 7, none⟩ = some (.string q1) ∧ W.cell? ⟨nb, 8, none⟩ = some (.string q2) ∧ W.cell? ⟨nb, 9, none⟩ = some (.int .i64 q3) ∧ W.cell? ⟨nb, 10, none⟩ = some (.int .i64 q4) ∧ W.cell? ⟨nb, 11, none⟩ = some (.int .i64 q5) ∧ W.cell? ⟨nb, 12, none⟩ = some (.int .i64 q6)) := H_ (fun W hW => ⟨hW.cell0 y0, hW.cell0 y1, hW.cell0 y2, hW.cell0 y3, hW.cell0 y4, hW.cell0 y5, hW.cell0 y6, hW.cell0 y7, hW.cell0 y8, hW.cell0 y9, hW.cell0 y10, hW.cell0 y11, hW.cell0 y12⟩)
        clear y0 y1 y2 y3 y4 y5 y6 y7 y8 y9 y10 y11 y12 z0 z1 z2 z3 ly lz
        have HOK2 : Hid (EvOk D i ⟨kd, ⟨p1, p2, p3, p4, p5, p6⟩, ⟨q1, q2, q3, q4, q5, q6⟩⟩ → ∀ j x, j < i + 1 → D.events[j]? = some x → EvOk D j x) := H_ (fun he j x hj hx => by
         rcases Nat.lt_or_ge j i with h2 | h2
         · exact HOK.out j x h2 hx
         have e : j = i := (by omega)
         subst e; rw [HX.out] at hx; cases hx
         exact he)
        have HEV : Hid ((p4 = D.mark → zfq ⟨kd, ⟨p1, p2, p3, p4, p5, p6⟩, ⟨q1, q2, q3, q4, q5, q6⟩⟩ D.kvs D.mark = true) → (p4 ≠ D.mark → madeB ⟨kd, ⟨p1, p2, p3, p4, p5, p6⟩, ⟨q1, q2, q3, q4, q5, q6⟩⟩ ((hasL (foldTo D i) p1).getD kv0) p4 = true) → EvOk D i ⟨kd, ⟨p1, p2, p3, p4, p5, p6⟩, ⟨q1, q2, q3, q4, q5, q6⟩⟩) := H_ (fun h1 h2 =>
         ⟨by rw [HFST.out]; show fst ≤ p4; omega, by rw [HRA.out]; show ra ≤ p4; omega, by rw [HRA.out]; show p4 ≤ ra + 1; omega, fun j y hj hy hm => HU.out j y hj hy hm, h1, h2⟩)
        have hp40 : 0 ≤ p4 := (by omega); have hp41 : p4 ≤ 1099511627776 + ((i : Int) + 1) := (by omega); have hrs2 := HRS.out; by_cases hmm : p4 = D.mark
        · have hmm' : (p4 == D.mark) = true := beq_iff_eq.2 hmm
          have HFO : Hid (foldTo D (i + 1) = foldTo D i) := H_ (HFM.out (by show ¬ D.mark < p4; omega)); have HRS2 := H_ hrs2; clear hrs2
          cases mk with
          | false =>
            have HN : Hid (¬ zbe D) := H_ (fun h => by have h1 := (HNOK.out h).mkd hmm; rw [HMK.out] at h1; cases h1); clear hmm; go_wp2_with (go_at_call 70; with_reducible refine (HC70.out _ HQW.out).mono ?_; rintro e w9 ⟨rfl, hw9⟩); go_ret; exact RightR.no rfl HN.out (HF1.out.trans0 (HF.out.trans0 (HQW.out.trans0 hw9)))
          | true =>
            have HEV2 := H_ (HEV.out (fun _ => HMK.out) (fun h => absurd hmm h)); by_cases hkd : kd = 1
            · have hkd' : (kd == 1) = true := beq_iff_eq.2 hkd
              have HFE2 : Hid (freshE D (i + 1) = freshE D i + 1) := H_ (by rw [HFE1.out, hmm', hkd']; rfl); clear hmm hkd
              go_wp2_with (go_at_call 70; with_reducible refine (HC70.out _ HQW.out).mono ?_; rintro e w9 ⟨rfl, hw9⟩
                           have v0' := hw9.cell0 v0)
              have HW9 := H_ (HQW.out.trans0 hw9); clear hw9; go_roundg g
              case rel => exact ⟨i + 1, _, by rw [HFE2.out]; go_num, by rw [HRS2.out], rfl, by go_num, by omega, by rw [HRS2.out]; exact hp40, by rw [HRS2.out]; go_num, H_ (HOK2.out HEV2.out), H_ (by rw [HFO.out]; exact HO.out.fr0 HW9.out), H_ (HF.out.trans0 HW9.out)⟩
              case measure => omega
            have hkd' : (kd == 1) = false := beq_eq_false_iff_ne.2 hkd
            have HFE2 : Hid (freshE D (i + 1) = freshE D i) := H_ (by rw [HFE1.out, hmm', hkd']; rfl); clear hmm hkd
            go_wp2_with (go_at_call 70; with_reducible refine (HC70.out _ HQW.out).mono ?_; rintro e w9 ⟨rfl, hw9⟩
                         have v0' := hw9.cell0 v0)
            have HW9 := H_ (HQW.out.trans0 hw9); clear hw9; go_roundg g
            case rel => exact ⟨i + 1, _, by rw [HFE2.out], by rw [HRS2.out], rfl, by go_num, by omega, by rw [HRS2.out]; exact hp40, by rw [HRS2.out]; go_num, H_ (HOK2.out HEV2.out), H_ (by rw [HFO.out]; exact HO.out.fr0 HW9.out), H_ (HF.out.trans0 HW9.out)⟩
            case measure => omega
        have hmm' : (p4 == D.mark) = false := beq_eq_false_iff_ne.2 hmm
        have hge2 : D.mark < p4 := (by have := HFST.out; omega); have HFO : Hid (foldTo D (i + 1) = doneL (foldTo D i) ⟨kd, ⟨p1, p2, p3, p4, p5, p6⟩, ⟨q1, q2, q3, q4, q5, q6⟩⟩) := H_ (HFD.out hge2); have HFE2 : Hid (freshE D (i + 1) = freshE D i) := H_ (by rw [HFE1.out, hmm']; rfl); have HRS2 := H_ hrs2; clear hrs2; have HC72b := H_ (fun W (hW : Fr No W2 W) => Calls.cls (HC72.out W (HW2.out.trans0 hW)) hW); have HC71b := H_ (fun W (hW : Fr No W2 W) => Calls.cls (HC71.out W) hW)
        cases md with
        | false =>
          have HN : Hid (¬ zbe D) := H_ (fun h => by have h1 := (HNOK.out h).md hmm; dsimp only at h1; rw [HNW.out, HMD.out] at h1; cases h1); clear hmm hge2; go_upto_region 31 with fail; refine zas (C := fun W => Fr No W2 W) (by kernel_rfl) (by kernel_rfl) (HQ.out.drew) ?_
          repeat (refine (wpQuiet_step (fun K hK => ?_) : _)
                  go_simp
                  first
                   | (refine hK _ ?_; clear hK K)
                   | (apply Exists.intro
                      refine ⟨fun W hW => ?_, hK _ ?_⟩
                      (first
                        | exact rfl
                        | (obtain ⟨c0, c1, c2, c3, c4, c5, c6, c7, c8, c9, c10, c11, c12⟩ := HS2.out W hW; go_simp; exact rfl)
                        | (with_reducible exact (HC72b.out W hW))
                        | (with_reducible exact (HC71b.out W hW))
                      )
                      clear hK K))
          refine (wpQuiet_nil ?_ : _); intro w9 hw9; go_wp2; go_ret; exact RightR.no rfl HN.out (HF1.out.trans0 (HF.out.trans0 (HW2.out.trans0 hw9)))
        | true =>
          have HEV2 := H_ (HEV.out (fun h => absurd h hmm) (fun _ => by rw [HNW.out]; exact HMD.out)); clear hmm hge2; go_upto_region 31 with fail; refine zas (C := fun W => Fr No W2 W) (by kernel_rfl) (by kernel_rfl) (HQ.out.drew) ?_
          repeat (refine (wpQuiet_step (fun K hK => ?_) : _)
                  go_simp
                  first
                   | (refine hK _ ?_; clear hK K)
                   | (apply Exists.intro
                      refine ⟨fun W hW => ?_, hK _ ?_⟩
                      (first
                        | exact rfl
                        | (obtain ⟨c0, c1, c2, c3, c4, c5, c6, c7, c8, c9, c10, c11, c12⟩ := HS2.out W hW; go_simp; exact rfl)
                        | (with_reducible exact (HC72b.out W hW))
                        | (with_reducible exact (HC71b.out W hW))
                      )
                      clear hK K))
          refine (wpQuiet_nil ?_ : _); intro w9 hw9; have HW9 := H_ hw9; obtain ⟨c0, c1, c2, c3, c4, c5, c6, c7, c8, c9, c10, c11, c12⟩ := HS2.out w9 hw9; have lc := World.block_lt_of_cell? _ _ c0; clear hw9 v0 v1 v2 v3 v4 v5 v6 v7 v8 v9 v10 v11 v12 u0 u1 u2 u3 lv lu; go_wp2_with (go_at_call 73; with_reducible refine (HC73.out _ (HW2.out.trans0 HW9.out)).mono ?_; rintro e w10 ⟨o10, rfl, hv10, _, hf10⟩); have HV10 := H_ (hv10.toR zaf); have HF10 := H_ (HW2.out.trans0 (HW9.out.trans0 hf10)); clear hv10 hf10; go_roundg g
          case rel => exact ⟨i + 1, _, by rw [HFE2.out], by rw [HRS2.out], rfl, by go_num, by omega, by rw [HRS2.out]; exact hp40, by rw [HRS2.out]; go_num, H_ (HOK2.out HEV2.out), H_ (by rw [HFO.out]; exact HV10.out), H_ (HF.out.trans0 HF10.out)⟩
          case measure => omega
  | succ g =>
    have hil : (i : Int) < (D.kvs.length : Int) := (by omega); obtain ⟨x, hx⟩ : ∃ x, D.kvs[i]? = some x := ⟨_, List.getElem?_eq_getElem (by omega)⟩; obtain ⟨ga, go, rfl⟩ := HK3.out (by omega)
    have HS : Hid (∀ W, Fr No wr W → W.cell? ⟨w.heap.size, 1, none⟩ = some (.int .i64 D.mark) ∧ W.cell? ⟨w.heap.size, 2, none⟩ = some (.slice (some ⟨ga, go, none⟩) D.kvs.length kcap) ∧
     W.cell? ⟨ga, go + i * 6, none⟩ = some (.string x.key) ∧ W.cell? ⟨ga, go + i * 6 + 1, none⟩ = some (.string x.value) ∧ W.cell? ⟨ga, go + i * 6 + 2, none⟩ = some (.int .i64 x.create) ∧ W.cell? ⟨ga, go + i * 6 + 3, none⟩ = some (.int .i64 x.mod) ∧ W.cell? ⟨ga, go + i * 6 + 4, none⟩ = some (.int .i64 x.version) ∧ W.cell? ⟨ga, go + i * 6 + 5, none⟩ = some (.int .i64 x.lease)) := H_ (fun W hW => by
     have hh := HD.out.kvs.fr0 (HF.out.trans0 hW); exact ⟨hW.cell0 b1, hW.cell0 b2, hh.cell0 zaf i hx rfl, hh.cell zaf i 1 hx rfl, hh.cell zaf i 2 hx rfl, hh.cell zaf i 3 hx rfl, hh.cell zaf i 4 hx rfl, hh.cell zaf i 5 hx rfl⟩)
    have hsk := HSM.out.kvs x (List.mem_of_getElem? hx); have hC := fun W (hW : Fr No wr W) => (zgr W x hsk D.mark (by omega)).mono fun e w' (h : e = .returned (.bool (mayB x D.mark)) ∧ Fr No W w') => (⟨h.1, hW.trans0 h.2⟩ : e = .returned (.bool (mayB x D.mark)) ∧ Fr No wr w')
    cases hmay : mayB x D.mark with
    | false =>
      rw [hmay] at hC; unfold kvV at hC; have HC := H_ hC; have HN : Hid (¬ zbe D) := H_ (fun h => by have := (h.kvs i x hx).may; rw [hmay] at this; cases this); clear hC hsk hmay hx hb; go_upto_region 7 with fail; refine zas (C := fun W => Fr No wr W) (by kernel_rfl) (by kernel_rfl) ((Fr.refl No wr).drew) ?_
      repeat (refine (wpQuiet_step (fun K hK => ?_) : _)
              go_simp
              first
               | (refine hK _ ?_; clear hK K)
               | (apply Exists.intro
                  refine ⟨fun W hW => ?_, hK _ ?_⟩
                  (first
                    | exact rfl
                    | (obtain ⟨c1, c2, c3, c4, c5, c6, c7, c8⟩ := HS.out W hW; go_simp; exact rfl)
                    | (with_reducible exact (HC.out W hW))
                  )
                  clear hK K))
      refine (wpQuiet_nil ?_ : _); intro w9 hw9; go_wp2; go_ret; exact RightR.no rfl HN.out (HF1.out.trans0 (HF.out.trans0 hw9))
    | true =>
      unfold kvV at hC; rw [hmay] at hC; have HC := H_ hC; have HX := H_ hx; have HMY := H_ hmay; clear hC hsk hmay hx hb; rcases Nat.eq_zero_or_pos i with h0 | h0
      · subst h0
        rw [show ((0 : Nat) : Int) = (0 : Int) from rfl]; have hS0 := HS.out; simp only [Nat.zero_mul, Nat.add_zero] at hS0; clear HS; have HS := H_ hS0; clear hS0; have hg0 : decide ((0 : Int) > 0) = false := rfl; have HOKX : Hid (KvOk D 0 x) := H_ ⟨HMY.out, fun _ h => absurd h (Nat.lt_irrefl _)⟩; go_upto_region 7 with fail; refine zas (C := fun W => Fr No wr W) (by kernel_rfl) (by kernel_rfl) ((Fr.refl No wr).drew) ?_
        repeat (refine (wpQuiet_step (fun K hK => ?_) : _)
                go_simp
                first
                 | (refine hK _ ?_; clear hK K)
                 | (apply Exists.intro
                    refine ⟨fun W hW => ?_, hK _ ?_⟩
                    (first
                      | exact rfl
                      | (obtain ⟨c1, c2, c3, c4, c5, c6, c7, c8⟩ := HS.out W hW; go_simp; exact rfl)
                      | (with_reducible exact (HC.out W hW))
                    )
                    clear hK K))
        refine (wpQuiet_nil ?_ : _); intro w9 hw9; have HW9 := H_ hw9; clear hw9; go_upto_region 9 with fail; by_cases hmm : x.mod = D.mark
        · have hm1' : (x.mod == D.mark) = true := beq_iff_eq.2 hmm
          have HFK : Hid (freshK D (0 + 1) = freshK D 0 + 1) := H_ (by rw [zdz D HX.out, hm1']; rfl); clear hmm; refine zas (C := fun W => Fr No wr W) (by kernel_rfl) (by kernel_rfl) (HW9.out.drew) ?_
          repeat (refine (wpQuiet_step (fun K hK => ?_) : _)
                  go_simp
                  first
                   | (refine hK _ ?_; clear hK K)
                   | (apply Exists.intro
                      refine ⟨fun W hW => ?_, hK _ ?_⟩
                      (first
                        | exact rfl
                        | (obtain ⟨c1, c2, c3, c4, c5, c6, c7, c8⟩ := HS.out W hW; go_simp; exact rfl)
                      )
                      clear hK K))
          refine (wpQuiet_nil ?_ : _); intro w10 hw10; go_wp2; go_roundg g
          case rel => exact ⟨1, by rw [HFK.out]; go_num, by go_num, by omega, H_ (fun j' k hj hk => by rcases Nat.lt_or_ge j' (0) with h | h; exact HOK.out j' k h hk; have e : j' = 0 := (by omega); subst e; rw [HX.out] at hk; cases hk; exact HOKX.out), H_ (HF.out.trans0 hw10)⟩
          case measure => omega
        have hm1' : (x.mod == D.mark) = false := beq_eq_false_iff_ne.2 hmm
        have HFK : Hid (freshK D (0 + 1) = freshK D 0 + 0) := H_ (by rw [zdz D HX.out, hm1']; rfl); clear hmm; refine zas (C := fun W => Fr No wr W) (by kernel_rfl) (by kernel_rfl) (HW9.out.drew) ?_
        repeat (refine (wpQuiet_step (fun K hK => ?_) : _)
                go_simp
                first
                 | (refine hK _ ?_; clear hK K)
                 | (apply Exists.intro
                    refine ⟨fun W hW => ?_, hK _ ?_⟩
                    (first
                      | exact rfl
                      | (obtain ⟨c1, c2, c3, c4, c5, c6, c7, c8⟩ := HS.out W hW; go_simp; exact rfl)
                    )
                    clear hK K))
        refine (wpQuiet_nil ?_ : _); intro w10 hw10; go_wp2; go_roundg g
        case rel => exact ⟨1, by rw [HFK.out]; go_num, by go_num, by omega, H_ (fun j' k hj hk => by rcases Nat.lt_or_ge j' (0) with h | h; exact HOK.out j' k h hk; have e : j' = 0 := (by omega); subst e; rw [HX.out] at hk; cases hk; exact HOKX.out), H_ (HF.out.trans0 hw10)⟩
        case measure => omega
      obtain ⟨j, rfl⟩ : ∃ j, i = j + 1 := ⟨i - 1, by omega⟩
      obtain ⟨x', hx'⟩ : ∃ x', D.kvs[j]? = some x' := ⟨_, List.getElem?_eq_getElem (by omega)⟩; have HK' : Hid (∀ W, Fr No wr W → W.cell? ⟨ga, go + j * 6, none⟩ = some (.string x'.key)) := H_ (fun W hW => (HD.out.kvs.fr0 (HF.out.trans0 hW)).cell0 zaf j hx' rfl); have hg1 : decide (((j : Int) + 1) > 0) = true := decide_eq_true (by omega); have hg2 : decide ((0 : Int) < ((j : Int) + 1)) = true := decide_eq_true (by omega); have hj1 : (0 : Int) ≤ (j : Int) + 1 := (by omega); have hjl : (j : Int) < (D.kvs.length : Int) := (by omega); have hwj : IntKind.i64.wrap (j : Int) = (j : Int) := IntWalk.i64_in _ ⟨by omega, by omega⟩; rcases zdx x'.key x.key with hc | hc | hc
      · obtain ⟨e1, e2, e3, e4, _⟩ := zfg hc
        have HOKX : Hid (KvOk D (j + 1) x) := H_ ⟨HMY.out, fun k' _ hk' => by rw [show j + 1 - 1 = j from rfl, hx'] at hk'; cases hk'; exact hc⟩; clear hc hx'; go_upto_region 7 with fail; refine zas (C := fun W => Fr No wr W) (by kernel_rfl) (by kernel_rfl) ((Fr.refl No wr).drew) ?_
        repeat (refine (wpQuiet_step (fun K hK => ?_) : _)
                go_simp
                first
                 | (refine hK _ ?_; clear hK K)
                 | (apply Exists.intro
                    refine ⟨fun W hW => ?_, hK _ ?_⟩
                    (first
                      | exact rfl
                      | (obtain ⟨c1, c2, c3, c4, c5, c6, c7, c8⟩ := HS.out W hW; have c9 := HK'.out W hW; go_simp; exact rfl)
                      | (with_reducible exact (HC.out W hW))
                    )
                    clear hK K))
        refine (wpQuiet_nil ?_ : _); intro w9 hw9; have HW9 := H_ hw9; clear hw9; go_upto_region 9 with fail; by_cases hmm : x.mod = D.mark
        · have hm1' : (x.mod == D.mark) = true := beq_iff_eq.2 hmm
          have HFK : Hid (freshK D ((j + 1) + 1) = freshK D (j + 1) + 1) := H_ (by rw [zdz D HX.out, hm1']; rfl); clear hmm; refine zas (C := fun W => Fr No wr W) (by kernel_rfl) (by kernel_rfl) (HW9.out.drew) ?_
          repeat (refine (wpQuiet_step (fun K hK => ?_) : _)
                  go_simp
                  first
                   | (refine hK _ ?_; clear hK K)
                   | (apply Exists.intro
                      refine ⟨fun W hW => ?_, hK _ ?_⟩
                      (first
                        | exact rfl
                        | (obtain ⟨c1, c2, c3, c4, c5, c6, c7, c8⟩ := HS.out W hW; go_simp; exact rfl)
                      )
                      clear hK K))
          refine (wpQuiet_nil ?_ : _); intro w10 hw10; go_wp2; go_roundg g
          case rel => exact ⟨j + 2, by rw [HFK.out]; go_num, by go_num, by omega, H_ (fun j' k hj hk => by rcases Nat.lt_or_ge j' ((j + 1)) with h | h; exact HOK.out j' k h hk; have e : j' = (j + 1) := (by omega); subst e; rw [HX.out] at hk; cases hk; exact HOKX.out), H_ (HF.out.trans0 hw10)⟩
          case measure => omega
        have hm1' : (x.mod == D.mark) = false := beq_eq_false_iff_ne.2 hmm
        have HFK : Hid (freshK D ((j + 1) + 1) = freshK D (j + 1) + 0) := H_ (by rw [zdz D HX.out, hm1']; rfl); clear hmm; refine zas (C := fun W => Fr No wr W) (by kernel_rfl) (by kernel_rfl) (HW9.out.drew) ?_
        repeat (refine (wpQuiet_step (fun K hK => ?_) : _)
                go_simp
                first
                 | (refine hK _ ?_; clear hK K)
                 | (apply Exists.intro
                    refine ⟨fun W hW => ?_, hK _ ?_⟩
                    (first
                      | exact rfl
                      | (obtain ⟨c1, c2, c3, c4, c5, c6, c7, c8⟩ := HS.out W hW; go_simp; exact rfl)
                    )
                    clear hK K))
        refine (wpQuiet_nil ?_ : _); intro w10 hw10; go_wp2; go_roundg g
        case rel => exact ⟨j + 2, by rw [HFK.out]; go_num, by go_num, by omega, H_ (fun j' k hj hk => by rcases Nat.lt_or_ge j' ((j + 1)) with h | h; exact HOK.out j' k h hk; have e : j' = (j + 1) := (by omega); subst e; rw [HX.out] at hk; cases hk; exact HOKX.out), H_ (HF.out.trans0 hw10)⟩
        case measure => omega
      · have e1 : (x.key.toList == x'.key.toList) = true := by rw [hc]; exact zkc _
        have HN : Hid (¬ zbe D) := H_ (fun h => by have := (h.kvs (j + 1) x HX.out).up x' (by omega) hx'; rw [hc, zaz] at this; cases this); clear hc hx'; go_upto_region 7 with fail; refine zas (C := fun W => Fr No wr W) (by kernel_rfl) (by kernel_rfl) ((Fr.refl No wr).drew) ?_
        repeat (refine (wpQuiet_step (fun K hK => ?_) : _)
                go_simp
                first
                 | (refine hK _ ?_; clear hK K)
                 | (apply Exists.intro
                    refine ⟨fun W hW => ?_, hK _ ?_⟩
                    (first
                      | exact rfl
                      | (obtain ⟨c1, c2, c3, c4, c5, c6, c7, c8⟩ := HS.out W hW; have c9 := HK'.out W hW; go_simp; exact rfl)
                      | (with_reducible exact (HC.out W hW))
                    )
                    clear hK K))
        refine (wpQuiet_nil ?_ : _); intro w9 hw9; go_wp2; go_ret; exact RightR.no rfl HN.out (HF1.out.trans0 (HF.out.trans0 hw9))
      obtain ⟨e1, e2, e3, e4, _⟩ := zfg hc
      have HN : Hid (¬ zbe D) := H_ (fun h => by have := (h.kvs (j + 1) x HX.out).up x' (by omega) hx'; rw [zcd hc] at this; cases this); clear hc hx'; go_upto_region 7 with fail; refine zas (C := fun W => Fr No wr W) (by kernel_rfl) (by kernel_rfl) ((Fr.refl No wr).drew) ?_
      repeat (refine (wpQuiet_step (fun K hK => ?_) : _)
              go_simp
              first
               | (refine hK _ ?_; clear hK K)
               | (apply Exists.intro
                  refine ⟨fun W hW => ?_, hK _ ?_⟩
                  (first
                    | exact rfl
                    | (obtain ⟨c1, c2, c3, c4, c5, c6, c7, c8⟩ := HS.out W hW; have c9 := HK'.out W hW; go_simp; exact rfl)
                    | (with_reducible exact (HC.out W hW))
                  )
                  clear hK K))
      refine (wpQuiet_nil ?_ : _); intro w9 hw9; go_wp2; go_ret; exact RightR.no rfl HN.out (HF1.out.trans0 (HF.out.trans0 hw9))
end Go.Proofs.YthljnnjpmdgkoaaGreat
