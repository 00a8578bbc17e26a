/- Lemmas for the claim. Conditions stand in each. -/
import Derived.Test.YthljnnjpmdgkoaaGreatG07
import Derived.Test.YthljnnjpmdgkoaaGreatG29
import Derived.Test.YthljnnjpmdgkoaaGreatG11
import Derived.Test.YthljnnjpmdgkoaaGreatG16
import Derived.Test.YthljnnjpmdgkoaaGreatG23
import Derived.Test.YthljnnjpmdgkoaaGreatG18
import Derived.Test.YthljnnjpmdgkoaaGreatG09
import Derived.Test.YthljnnjpmdgkoaaGreatG14
import Derived.Deep.RegionHeld3
import Derived.Deep.DeepCutAuto
import Derived.BigRegion
namespace Go.Proofs.YthljnnjpmdgkoaaGreat
open Go Go.Proofs Go.RowKit
set_option maxRecDepth 100000
theorem zvz (x : Ev) : ∀ u ∈ evC x, u.oneCell' = true := fun u hu => ztz (L := [x]) (by simpa using hu)
theorem zsi {X : World} {b : Nat} {a0 a1 a2 a3 : Value} (hk : X.heap[b]? = some (.cells #[a0, a1, a2, a3] 42 (0, 0))) (r m kv ev : Value) :
 ∃ Z, ((((X.setCell ⟨b, 0, none⟩ r).setCell ⟨b, 1, none⟩ m).setCell ⟨b, 2, none⟩ kv).setCell ⟨b, 3, none⟩ ev) = Z ∧ Z.heap[b]? = some (.cells #[r, m, kv, ev] 42 (0, 0)) ∧ Fr (fun x => x = b) X Z := by
 have z1 := zac hk 0 r; have z2 := zac z1 1 m; have z3 := zac z2 2 kv; have z4 := zac z3 3 ev; refine ⟨_, rfl, by rw [z4]; simp, ((((Fr.refl (fun x => x = b) X).setAt 0 r).setAt 1 m).setAt 2 kv).setAt 3 ev⟩
def stateV (r m : Int) (kv ev : Value) : Value := .agg #[.int .i64 r, .int .i64 m, kv, ev]
set_option maxHeartbeats 8000000 in
theorem zox {TA : zao} {N : Nat} (hT : TreeOk TA N) {n : Nat} (hn : n ≤ 1099511627) (w : World) (s : Nat) (S : St) (F : Nat → Prop) (hS : zaj TA w s S F) (hok : StOk n S) (hN : S.T.length ≤ 1099511627) :
 Calls Tryz.prog 23 #[.pointer (some ⟨s, 0, none⟩)] w fun e w' => ∃ kv ev, e = .returned (stateV S.rev S.mark kv ev) ∧ SlF w' 99 6 kvC kv (zan S S.T S.mark) ∧ SlF w' 101 13 evC ev S.events ∧ Fr No w w' ∧ (∀ b, kv.ownBlock = some b → w.heap.size ≤ b) ∧ (∀ b, ev.ownBlock = some b → w.heap.size ≤ b) := by
 have hhad := fun W hW at_ H hH => zib hT hn W s S F hW hok at_ S.mark H hH; have hSA := H_ hS; obtain ⟨t, p, ev, hp, FT, FH, a, hF⟩ := hS; have c0 := a.obj.cell 0 rfl; have c3 := a.obj.cell 3 rfl; have c4 := a.obj.cell 4 rfl; have c5 := a.obj.cell 5 rfl; have ls := a.obj.lt; have hes := a.events; have hevl := hok.ev; have hlen := fun W (h : Fr No w W) => hT.len (w := W) (t := t) (T := S.T) (F := FT) (hT.fr a.tree h fun _ _ s => s); have hrng := fun W (h : Fr No w W) => hT.range (w := W) (t := t) (T := S.T) (F := FT) ⟨#[]⟩ ⟨#[]⟩ (hT.fr a.tree h fun _ _ s => s); simp only [zgj] at hrng; have HLEN := H_ hlen; have HRNG := H_ hrng; have HH := H_ hhad; have HOk := H_ hok.id; have HES := H_ hes; clear a hF hes hlen hrng hhad; go_enter Tryz.func23, Tryz.ntmps23; go_upto_region 3 with fail
 have hf0 : Fr No w (w.alloc (Obj.cells #[.int .i64 0, .int .i64 0, .slice none 0 0, .slice none 0 0] 42)) := (Fr.refl No w).alloc _; have hb0 := zad w (Obj.cells #[.int .i64 0, .int .i64 0, .slice none 0 0, .slice none 0 0] 42) _ rfl; generalize w.alloc (Obj.cells #[.int .i64 0, .int .i64 0, .slice none 0 0, .slice none 0 0] 42) = W0 at *; have d3 := hf0.cell0 c3; have d4 := hf0.cell0 c4; have ls0 : s < W0.heap.size := Nat.lt_of_lt_of_le ls hf0.size
 go_region
 go_upto_region 4 with fail; have hb1 : ((W0.alloc (Obj.cells #[.int .i64 S.rev, .int .i64 S.mark, .slice none 0 0, .slice none 0 0] 42)).drew).heap[W0.heap.size]? = some (.cells #[.int .i64 S.rev, .int .i64 S.mark, .slice none 0 0, .slice none 0 0] 42 (0, 0)) := zad _ _ _ rfl; have hb01 : ((W0.alloc (Obj.cells #[.int .i64 S.rev, .int .i64 S.mark, .slice none 0 0, .slice none 0 0] 42)).drew).heap[w.heap.size]? = some (.cells #[.int .i64 0, .int .i64 0, .slice none 0 0, .slice none 0 0] 42 (0, 0)) := zal hb0 _; have hf1 : Fr No w ((W0.alloc (Obj.cells #[.int .i64 S.rev, .int .i64 S.mark, .slice none 0 0, .slice none 0 0] 42)).drew) := (hf0.alloc _).drew; have lw0 := zaa hb0; clear d3 d4 hf0 hb0; generalize (W0.alloc (Obj.cells #[.int .i64 S.rev, .int .i64 S.mark, .slice none 0 0, .slice none 0 0] 42)).drew = W1 at *; have d0 := hf1.cell0 c0
 have ls1 : s < W1.heap.size := Nat.lt_of_lt_of_le ls hf1.size
 go_region_held3 (fun W => W.cell? ⟨s, 0, none⟩ = some (.pointer (some ⟨t, 0, none⟩)))
  (first | assumption | exact hf7.cell0 d0)
  (first
    | (go_at_call 61; refine (HLEN.out _ (hf1.trans0 (by (repeat (first | with_reducible exact Fr.refl _ _ | with_reducible refine Fr.drew ?_)); done))).mono ?_; rintro e w' ⟨rfl, rfl⟩)
    | (go_at_call 60; refine (HRNG.out _ (hf1.trans0 (by (repeat (first | with_reducible exact Fr.refl _ _ | with_reducible refine Fr.drew ?_)); done))).mono ?_; rintro e w7 ⟨pv, rfl, hpv, hf7, hpn⟩; obtain ⟨pa, pcap, rfl, hp1, hp2, hp3⟩ := hpv.shape))
 have hf17 : Fr No W1 w7 := (by first | exact hf7 | exact (Fr.refl No W1).drew.trans0 hf7); have hb7 := hf17.heap hb1 id; have hb07 := hf17.heap hb01 id; have hf07 : Fr No w w7 := hf1.trans0 hf17; have hs17 := hf17.size; have l1 := zaa hb1; have hpn7 : ∀ b, (Value.slice pa S.T.length pcap).ownBlock = some b → W1.heap.size ≤ b := fun b hb => by have := hpn b hb; have h' : W1.heap.size ≤ b := this; omega
 have HB7 := H_ hb7; have HB07 := H_ hb07; have HF7 := H_ hf07; have HPV := H_ hpv; have HPN := H_ hpn7; have HP3 := H_ hp3; have hST : ∃ St1 : Nat, W0.heap.size = St1 ∧ w.heap.size < St1 ∧ St1 < w7.heap.size := ⟨_, rfl, lw0, by omega⟩; obtain ⟨sb, hsb, hsb1, hsb2⟩ := hST; rw [hsb] at HB7; have hsb3 : sb < W1.heap.size := by omega
 clear hb7 hb07 hf07 hpv hpn7 hp3 hb1 hb01 hpn hf7 hf17 d0; obtain ⟨i0, hi0, hz0, hz1, hz2⟩ := info_parts info57; have hcap : S.T.length ≤ 1099511627 := hN; have HOK2 := H_ hok; rw [hsb]; go_wp2
 go_loopg [31] S.T.length (fun g s31 wr => ∃ (i : Nat) (o : Value), s31 = .int .i64 i ∧ i + g = S.T.length ∧ Hid (wr.heap[sb]? = some (.cells #[.int .i64 S.rev, .int .i64 S.mark, o, .slice none 0 0] 42 (0, 0))) ∧ Hid (SlF wr 99 6 kvC o (zan S (S.T.take i) S.mark)) ∧ Hid (Fr (fun b => b = sb) w7 wr) ∧ Hid (∀ b, o.ownBlock = some b → w7.heap.size ≤ b))
 case atStart => exact ⟨0, _, rfl, by simp, HB7, H_ (SlF.nil _ _ _ _), H_ (Fr.refl _ _), H_ (by simp [Value.ownBlock])⟩
 case round =>
  obtain ⟨i, o, rfl, hi, HBR, HO, HFR, HOn⟩ := hrel; have lsb := zaa HBR.out; have hfw : Fr No w wr := HF7.out.trans HFR.out fun b hb e => by have e' : b = sb := e; omega
  have HFW := H_ hfw; have r0 := hfw.cell0 c0; have r4 := hfw.cell0 c4; have r5 := hfw.cell0 c5; have lsr : s < wr.heap.size := Nat.lt_of_lt_of_le ls hfw.size; have b2 := cellAt HBR.out 2 rfl; have b3 := cellAt HBR.out 3 rfl; have bfz : ∀ j, wr.frozen? ⟨sb, j, none⟩ = false := fun j => by unfold World.frozen?; dsimp only; rw [HBR.out]; simp
  obtain ⟨oa, ocap, rfl, ho1, ho2, ho3⟩ := HO.out.shape; clear ho3 hfw
  cases gk with
  | zero =>
    have hil : ¬ (i : Int) < (S.T.length : Int) := (by omega); go_upto_region 11 with fail; have hti : S.T.take i = S.T := List.take_of_length_le (by omega); rw [hti] at HO HOn ho1 b2 HBR; obtain ⟨j0, hj0, hy0, hy1, hy2⟩ := info_parts info73; have hnl := hok.ev; have hwd := HFW.out.drew; have hsE := HES.out.fr0 hwd; obtain ⟨ea, ecap, rfl, he1, he2, he3⟩ := hsE.shape; have HSE := H_ hsE; have HOo := H_ (show (Value.slice oa (zan S S.T S.mark).length ocap).ownBlock ≠ some sb from fun h => by have := HOn.out sb h; omega); clear hsE he3 hwd
    go_region_law (refine zbf rfl _ _ 28 rfl 101 j0 _ 13 136 Tryz.underlying28 hj0 hy0 hy1 hy2 rfl (by decide) zab zvz (.slice none 0 0) (.slice ea S.events.length ecap) [] S.events rfl rfl (SlF.nil _ _ _ _) HSE.out (by unfold maxLen; simp; try omega) (by simp; try omega) ?_; intro v4 w4 hs4 hf4 hb4; obtain ⟨va, vcap, rfl, _, _, _⟩ := hs4.shape; have hq4 : Fr No wr.drew w4 := hf4.mono (fun b _ h => by simp [Value.ownBlock] at h); have hb4' := hq4.heap (show wr.drew.heap[sb]? = _ from HBR.out) id; have v3 : w4.cell? ⟨sb, 3, none⟩ = some (.slice none 0 0) := (by simp [World.cell?, hb4']); have v3f : w4.frozen? ⟨sb, 3, none⟩ = false := (by simp [World.frozen?, hb4']); have l4 := zaa hb4'; have HS4 := H_ hs4; have HQ4 := H_ hq4; have HB4 := H_ hb4'; have HBN := H_ hb4; clear hs4 hf4 hb4 hq4 hb4')
    all_goals
     have hset := zac HB4.out 3 (.slice va S.events.length vcap); have hfs : Fr (fun b => b = sb) w4 (w4.setCell ⟨sb, 3, none⟩ (.slice va S.events.length vcap)) := (Fr.refl _ w4).setAt 3 _; have hb0r := HFR.out.heap HB07.out (fun e => by have e' : w.heap.size = sb := e; omega); have hb04 := HQ4.out.heap (show wr.drew.heap[w.heap.size]? = _ from hb0r) (fun h => h); have hb05 := hfs.heap hb04 (fun e => by have e' : w.heap.size = sb := e; omega)
     have hev5 := HS4.out.fr hfs fun b hb e => by
      have e' : b = sb := e; have h1 := HBN.out b hb; rcases h1 with h1 | h1
      · simp [Value.ownBlock] at h1
      have h2 : wr.heap.size ≤ b := h1
      omega
     have hkv5 := ((HO.out.fr0 (Fr.refl No wr).drew).fr0 HQ4.out).fr hfs fun b hb e => by
      have e' : b = sb := e; exact HOo.out (by rw [← e']; exact hb)
     have hq5 : Fr No w (w4.setCell ⟨sb, 3, none⟩ (.slice va S.events.length vcap)) := (HFW.out.drew.trans0 HQ4.out).trans hfs fun b hb e => by
      have e' : b = sb := e; omega
     generalize w4.setCell ⟨sb, 3, none⟩ (.slice va S.events.length vcap) = W5 at *; have hst : ∃ row, W5.heap[sb]? = some (.cells row 42 (0, 0)) ∧ row = #[.int .i64 S.rev, .int .i64 S.mark, .slice oa (zan S S.T S.mark).length ocap, .slice va S.events.length vcap] := ⟨_, hset, by simp⟩; obtain ⟨row, hset, rfl⟩ := hst; have s0 : W5.cell? ⟨sb, 0, none⟩ = some (.int .i64 S.rev) := (by simp [World.cell?, hset]); have s1 : W5.cell? ⟨sb, 1, none⟩ = some (.int .i64 S.mark) := (by simp [World.cell?, hset]); have s2 : W5.cell? ⟨sb, 2, none⟩ = some (.slice oa (zan S S.T S.mark).length ocap) := (by simp [World.cell?, hset]); have s3 : W5.cell? ⟨sb, 3, none⟩ = some (.slice va S.events.length vcap) := (by simp [World.cell?, hset]); have t0 : W5.cell? ⟨w.heap.size, 0, none⟩ = some (.int .i64 0) := (by simp [World.cell?, hb05])
     have t1 : W5.cell? ⟨w.heap.size, 1, none⟩ = some (.int .i64 0) := (by simp [World.cell?, hb05]); have t2 : W5.cell? ⟨w.heap.size, 2, none⟩ = some (.slice none 0 0) := (by simp [World.cell?, hb05]); have t3 : W5.cell? ⟨w.heap.size, 3, none⟩ = some (.slice none 0 0) := (by simp [World.cell?, hb05]); have tf : ∀ i, W5.frozen? ⟨w.heap.size, i, none⟩ = false := fun i => by simp [World.frozen?, hb05]
     have lt5 := zaa hb05; have lb5 := zaa hset; obtain ⟨Z, hZ, hz6, hzf⟩ := zsi hb05 (.int .i64 S.rev) (.int .i64 S.mark) (.slice oa (zan S S.T S.mark).length ocap) (.slice va S.events.length vcap); have HKV5 := H_ hkv5; have HEV5 := H_ hev5; have HQ5 := H_ hq5; have HZ := H_ hZ; have HZ6 := H_ hz6; have HZF := H_ hzf; clear hset hfs hb0r hb04 hb05 hev5 hkv5 hq5 hZ hz6 hzf v3 v3f l4; go_wp2; rw [HZ.out]; have hsz := HFW.out.size; refine bodyPost_ret (results_cell_row rfl _ _ w.heap.size 42 _ (0, 0) _ rfl HZ6.out Tryz.underlying42 rfl (by kernel_rfl)) rfl ⟨.slice oa (zan S S.T S.mark).length ocap, .slice va S.events.length vcap, rfl, ?_, ?_, ?_, fun b hb => ?_, fun b hb => ?_⟩
     · refine HKV5.out.fr HZF.out fun b hb e => ?_
       have e' : b = w.heap.size := e; have h1 := HOn.out b hb; omega
     · refine (by simpa using HEV5.out : SlF W5 101 13 evC (.slice va S.events.length vcap) S.events).fr HZF.out fun b hb e => ?_
       have e' : b = w.heap.size := e; rcases HBN.out b hb with h1 | h1
       · simp [Value.ownBlock] at h1
       have h2 : wr.heap.size ≤ b := h1
       omega
     · exact HQ5.out.trans HZF.out fun b hb e => by
        have e' : b = w.heap.size := e; omega
     · have h1 := HOn.out b hb
       omega
     rcases HBN.out b hb with h1 | h1
     · simp [Value.ownBlock] at h1
     have h2 : wr.heap.size ≤ b := h1
     omega
  | succ g =>
    have hil : (i : Int) < (S.T.length : Int) := (by omega); obtain ⟨gb, go, rfl⟩ := HP3.out (by omega); obtain ⟨q, hq⟩ : ∃ q, S.T[i]? = some q := ⟨_, List.getElem?_eq_getElem (by omega)⟩; have hslr := HPV.out.fr HFR.out (fun b hb e => by have e' : b = sb := e; have := HPN.out b hb; omega); have x0 := hslr.cell0 zae i hq rfl; have x1 := hslr.cell zae i 1 hq rfl; obtain ⟨H, hH⟩ := HOk.out q (List.mem_of_getElem? hq); have hone : oneL S S.mark q = if (hadH H S.mark).2 then some (hadH H S.mark).1 else none := (by unfold oneL; rw [hH])
    have hstep : zan S (S.T.take (i + 1)) S.mark = zan S (S.T.take i) S.mark ++ (oneL S S.mark q).toList := by
     unfold zan; rw [List.take_add_one, hq, List.filterMap_append]; cases h : oneL S S.mark q <;> simp [h]
    have HST := H_ hstep; have HON := H_ hone; have HPH := H_ hH; have HQ := H_ hq; clear hstep hone hH hq hslr; rcases hr : hadH H S.mark with ⟨⟨r1, r2, r3, r4', r5', r6⟩, rb⟩
    rw [hr] at HON; have HR := H_ hr; clear hr; have hob : (zan S (S.T.take i) S.mark).length ≤ S.T.length := Nat.le_trans (List.length_filterMap_le _ _) (by simp; omega); go_upto_region 7 with fail; have hk7 := zad wr (Obj.cells #[.string q.1, .int .i64 q.2] 122) _ rfl; have hfa : Fr No wr (wr.alloc (Obj.cells #[.string q.1, .int .i64 q.2] 122)) := (Fr.refl No wr).alloc _; generalize wr.alloc (Obj.cells #[.string q.1, .int .i64 q.2] 122) = W2 at *; have k1 := cellAt hk7 1 rfl; have k4 := hfa.cell0 r4; have lk := zaa hk7; have lsk : s < W2.heap.size := Nat.lt_of_lt_of_le lsr hfa.size; have HFA := H_ hfa; clear hfa hk7; have hfZ : Fr No W2 (W2.alloc (Obj.cells #[.string ⟨#[]⟩, .string ⟨#[]⟩, .int .i64 0, .int .i64 0, .int .i64 0, .int .i64 0] 99)) := (Fr.refl No W2).alloc _
    have hzA : (W2.alloc (Obj.cells #[.string ⟨#[]⟩, .string ⟨#[]⟩, .int .i64 0, .int .i64 0, .int .i64 0, .int .i64 0] 99)).heap[W2.heap.size]? = some (.cells #[.string ⟨#[]⟩, .string ⟨#[]⟩, .int .i64 0, .int .i64 0, .int .i64 0, .int .i64 0] 99 (0, 0)) := zad _ _ _ rfl; have kZ4 := hfZ.cell0 k4; have kZ1 := hfZ.cell0 k1; have b1 : W2.cell? ⟨s, 4, none⟩ = some (.int .i64 S.mark) ∧ W2.cell? ⟨wr.heap.size, 1, none⟩ = some (.int .i64 q.2) := ⟨k4, k1⟩; have b2 : W2.drew.cell? ⟨s, 4, none⟩ = some (.int .i64 S.mark) ∧ W2.drew.cell? ⟨wr.heap.size, 1, none⟩ = some (.int .i64 q.2) := ⟨k4, k1⟩; have b3 := And.intro kZ4 kZ1
    have b4 : (W2.alloc (Obj.cells #[.string ⟨#[]⟩, .string ⟨#[]⟩, .int .i64 0, .int .i64 0, .int .i64 0, .int .i64 0] 99)).drew.cell? ⟨s, 4, none⟩ = some (.int .i64 S.mark) ∧ (W2.alloc (Obj.cells #[.string ⟨#[]⟩, .string ⟨#[]⟩, .int .i64 0, .int .i64 0, .int .i64 0, .int .i64 0] 99)).drew.cell? ⟨wr.heap.size, 1, none⟩ = some (.int .i64 q.2) := ⟨kZ4, kZ1⟩; have h1 := hSA.out.fr0 hT (HFW.out.trans0 HFA.out); have h2 := h1.fr0 hT (Fr.refl No W2).drew; have h3 := h1.fr0 hT hfZ; have h4 := h3.fr0 hT (Fr.refl No _).drew; have C1 := H_ (HH.out _ h1 q.2 H HPH.out); have C2 := H_ (HH.out _ h2 q.2 H HPH.out); have C3 := H_ (HH.out _ h3 q.2 H HPH.out); have C4 := H_ (HH.out _ h4 q.2 H HPH.out); have HZA := H_ hzA; have HFZ := H_ hfZ; clear h1 h2 h3 h4 hzA hfZ
    go_cut [6, 7] (fun s6 s7 wx => ∃ b : Nat, s6 = .pointer (some ⟨b, 0, none⟩) ∧ s7 = .bool rb ∧ Hid (wx.heap[b]? = some (.cells #[.string r1, .string r2, .int .i64 r3, .int .i64 r4', .int .i64 r5', .int .i64 r6] 99 (0, 0))) ∧ Hid (Fr No W2 wx))
    case first =>
     go_region_held3 (fun W => W.cell? ⟨s, 4, none⟩ = some (.int .i64 S.mark) ∧ W.cell? ⟨wr.heap.size, 1, none⟩ = some (.int .i64 q.2))
      (first | with_reducible exact b1 | with_reducible exact b2 | with_reducible exact b3 | with_reducible exact b4 | with_reducible exact kw | with_reducible exact kv | with_reducible exact ku | with_reducible exact kt | with_reducible exact kwd | with_reducible exact kvd | with_reducible exact kud | with_reducible exact ktd)
      (first
        | (go_at_call 62; first | refine C1.out.mono ?_ | refine C2.out.mono ?_
           rintro e w3 ⟨rfl, hf3⟩; rw [HR.out]; unfold zch kvV; have kw : w3.cell? ⟨s, 4, none⟩ = some (.int .i64 S.mark) ∧ w3.cell? ⟨wr.heap.size, 1, none⟩ = some (.int .i64 q.2) := ⟨hf3.cell0 k4, hf3.cell0 k1⟩; have hfv : Fr No w3 (w3.alloc (Obj.cells #[.string ⟨#[]⟩, .string ⟨#[]⟩, .int .i64 0, .int .i64 0, .int .i64 0, .int .i64 0] 99)) := (Fr.refl No w3).alloc _; have kv := And.intro (hfv.cell0 kw.1) (hfv.cell0 kw.2); have hqd : Fr No w3 w3.drew := (Fr.refl No w3).drew; have kwd := And.intro (hqd.cell0 kw.1) (hqd.cell0 kw.2); have kvd := And.intro (hfv.drew.cell0 kw.1) (hfv.drew.cell0 kw.2); have hfu : Fr No w3 (w3.alloc (Obj.cells #[.string r1, .string r2, .int .i64 r3, .int .i64 r4', .int .i64 r5', .int .i64 r6] 99)) := (Fr.refl No w3).alloc _; have ku := And.intro (hfu.cell0 kw.1) (hfu.cell0 kw.2); have kud := And.intro (hfu.drew.cell0 kw.1) (hfu.drew.cell0 kw.2)
           have HQ3 : Hid (Fr No W2 w3) := by first | exact H_ hf3 | exact H_ ((Fr.refl No W2).drew.trans0 hf3))
        | (go_at_call 62; first | refine C3.out.mono ?_ | refine C4.out.mono ?_
           rintro e w3 ⟨rfl, hf3⟩; rw [HR.out]; unfold zch kvV; have kw : w3.cell? ⟨s, 4, none⟩ = some (.int .i64 S.mark) ∧ w3.cell? ⟨wr.heap.size, 1, none⟩ = some (.int .i64 q.2) := ⟨hf3.cell0 kZ4, hf3.cell0 kZ1⟩; have hz3 : w3.heap[W2.heap.size]? = some (.cells #[.string ⟨#[]⟩, .string ⟨#[]⟩, .int .i64 0, .int .i64 0, .int .i64 0, .int .i64 0] 99 (0, 0)) := hf3.heap HZA.out (fun h => h); obtain ⟨z0, z1, z2, z3, z4, z5⟩ := cells6 hz3; have zf : ∀ i, w3.frozen? ⟨W2.heap.size, i, none⟩ = false := fun i => by unfold World.frozen?; dsimp only; rw [hz3]; simp
           have lz3 := zaa hz3; have hfs : Fr (fun b => b = W2.heap.size) w3 ((((((w3.setCell ⟨W2.heap.size, 0, none⟩ (.string r1)).setCell ⟨W2.heap.size, 1, none⟩ (.string r2)).setCell ⟨W2.heap.size, 2, none⟩ (.int .i64 r3)).setCell ⟨W2.heap.size, 3, none⟩ (.int .i64 r4')).setCell ⟨W2.heap.size, 4, none⟩ (.int .i64 r5')).setCell ⟨W2.heap.size, 5, none⟩ (.int .i64 r6)) := ((((((Fr.refl _ w3).setAt 0 _).setAt 1 _).setAt 2 _).setAt 3 _).setAt 4 _).setAt 5 _; have kt := And.intro (hfs.cell kw.1 (fun e => by have e' : s = W2.heap.size := e; omega)) (hfs.cell kw.2 (fun e => by have e' : wr.heap.size = W2.heap.size := e; omega)); have hqd : Fr No w3 w3.drew := (Fr.refl No w3).drew; have kwd := And.intro (hqd.cell0 kw.1) (hqd.cell0 kw.2)
           have ktd := And.intro (hfs.drew.cell kw.1 (fun e => by have e' : s = W2.heap.size := e; omega)) (hfs.drew.cell kw.2 (fun e => by have e' : wr.heap.size = W2.heap.size := e; omega)); have HQ3 : Hid (Fr No W2 w3) := (by first | exact H_ (HFZ.out.trans0 hf3) | exact H_ (HFZ.out.drew.trans0 hf3)); have HZ3 := H_ hz3; clear hz3))
     · go_wp2
       go_meet
       case rel => exact ⟨_, rfl, rfl, H_ (zad _ _ _ rfl), H_ (HQ3.out.alloc _)⟩
     obtain ⟨Z, hZ, hz6, hzf⟩ := zes (w := W2) HZ3.out ⟨r1, r2, r3, r4', r5', r6⟩
     dsimp only at hZ hz6; rw [hZ]; go_wp2; go_meet
     case rel => exact ⟨_, rfl, rfl, H_ hz6, H_ (hzf HQ3.out (Nat.le_refl _))⟩
    case rest =>
     obtain ⟨b, rfl, rfl, HBK, HX⟩ := hcut; have hfc : Fr No wr wc := HFA.out.trans0 HX.out; have HFC := H_ hfc; have hbc := hfc.heap HBR.out id; have lbk := zaa HBK.out; have lsc := zaa hbc; have e2 := cellAt hbc 2 rfl; have efz : ∀ j, wc.frozen? ⟨sb, j, none⟩ = false := fun j => by unfold World.frozen?; dsimp only; rw [hbc]; simp
     obtain ⟨y0, y1, y2, y3, y4, y5⟩ := cells6 HBK.out; have HBC := H_ hbc; have HSO := H_ (HO.out.fr0 hfc); clear hfc hbc x0 x1 k4 k1 kZ4 kZ1 b1 b4 lk lsk r0 r4 r5 b2 b3 bfz; cases rb
     · have HE : Hid (zan S (S.T.take (i + 1)) S.mark = zan S (S.T.take i) S.mark) := H_ (by rw [HST.out, HON.out]; simp)
       go_wp2; go_roundg g
       case rel => exact ⟨i + 1, _, by go_num, by omega, HBC, H_ (by rw [HE.out]; exact HSO.out), H_ (HFR.out.trans0 HFC.out), HOn⟩
       case measure => omega
     have HE : Hid (zan S (S.T.take (i + 1)) S.mark = zan S (S.T.take i) S.mark ++ [⟨r1, r2, r3, r4', r5', r6⟩]) := H_ (by rw [HST.out, HON.out]; simp)
     have hnew := zax wc (kvC ⟨r1, r2, r3, r4', r5', r6⟩) 99 (0, 0); have hob2 : (Value.slice oa (zan S (S.T.take i) S.mark).length ocap).ownBlock ≠ some sb := fun h => by have := HOn.out sb h; omega
     have HOB := H_ hob2; clear hob2; go_wp2_with (at_builtin; refine zap rfl _ _ 27 rfl 99 i0 _ 6 64 Tryz.underlying27 hi0 hz0 hz1 hz2 rfl (by decide) _ (zan S (S.T.take i) S.mark) rfl (HSO.out.alloc _) wc.heap.size 1 (⟨r1, r2, r3, r4', r5', r6⟩ : Kv) rfl hnew rfl ?c1 ?c2 ?c3 ?_)
     case c1 => intro u hu; simp [kvC] at hu; rcases hu with rfl | rfl | rfl | rfl | rfl | rfl <;> rfl
     case c2 => unfold maxLen; omega
     case c3 => omega
     intro g1 o' cap w4 hs4 hg4 hb4 hlt4; have hf4 : Fr (fun k => (Value.slice oa (zan S (S.T.take i) S.mark).length ocap).ownBlock = some k) wc w4 := ((Fr.refl _ wc).alloc _).grown hg4 fun k hk => .inl hk; have hb4' := hf4.heap HBC.out HOB.out; have v2 := cellAt hb4' 2 rfl; have v2f : ∀ j, w4.frozen? ⟨sb, j, none⟩ = false := fun j => by unfold World.frozen?; dsimp only; rw [hb4']; simp
     have l4 := zaa hb4'
     have hg1 : w7.heap.size ≤ g1 := by
      rcases hb4 with e | e
      · exact HOn.out _ e
      have h1 := HFR.out.size
      have h2 := HFC.out.size
      try simp at e
      omega
     have HS4 := H_ hs4; have HF4 := H_ hf4; have HB4 := H_ hb4'; clear hs4 hg4 hb4 hnew hf4 hb4'; go_wp2; go_roundg g
     case rel =>
      have hset := zac HB4.out 2 (.slice (some ⟨g1, o', none⟩) ((zan S (S.T.take i) S.mark).length + 1) cap); have hfs : Fr (fun b => b = sb) w4 (w4.setCell ⟨sb, 2, none⟩ (.slice (some ⟨g1, o', none⟩) ((zan S (S.T.take i) S.mark).length + 1) cap)) := (Fr.refl _ w4).setAt 2 _
      have hsl4 := HS4.out.fr hfs fun b hb e => by
       have e' : b = sb := e; obtain rfl : g1 = b := by simpa [Value.ownBlock] using hb
       omega
      refine ⟨i + 1, .slice (some ⟨g1, o', none⟩) ((zan S (S.T.take i) S.mark).length + 1) cap, by go_num, by omega, H_ (by rw [hset]; simp), H_ (by rw [HE.out]; simpa using hsl4), H_ (((HFR.out.trans0 HFC.out).trans HF4.out fun b hb h => ?_).trans hfs fun b hb e => e), H_ fun b hb => ?_⟩
      · have := HOn.out b h; omega
      obtain rfl : g1 = b := by simpa [Value.ownBlock] using hb
      exact hg1
     case measure => omega
theorem znj (w : World) (r m : Int) (n1 n2 c1 c2 : Nat) (a1 a2 : Option Addr) :
 Calls Tryz.prog 22 #[stateV r m (.slice a1 n1 c1) (.slice a2 n2 c2)] w fun e w' => e = .returned (stateV r m (.slice a1 n1 c1) (.slice a2 n2 c2)) ∧ Fr No w w' := by
 unfold stateV; go_enter Tryz.func22, Tryz.ntmps22; go_wp2; exact bodyPost_ret (results_cell_row rfl _ _ (w.heap.size + 1) 30 _ (0, 0) _ rfl (zad _ _ _ (by simp)) Tryz.underlying30 rfl (by kernel_rfl)) rfl ⟨rfl, ((Fr.refl No w).alloc _).alloc _⟩
theorem zms {TA : zao} (hT : TreeOk TA 1000000) {k : Nat} {S : St} {D : Doc} (h : Good k S D) (hk : k ≤ 70) (w : World) (s : Nat) (F : Nat → Prop) (hS : zaj TA w s S F) :
 Calls Tryz.prog 23 #[.pointer (some ⟨s, 0, none⟩)] w fun e w' => ∃ a1 c1 a2 c2, e = .returned (stateV D.rev D.mark (.slice a1 D.kvs.length c1) (.slice a2 D.events.length c2)) ∧ SlF w' 99 6 kvC (.slice a1 D.kvs.length c1) D.kvs ∧ SlF w' 101 13 evC (.slice a2 D.events.length c2) D.events ∧ Fr No w w' ∧ (∀ b, (Value.slice a1 D.kvs.length c1).ownBlock = some b → w.heap.size ≤ b) ∧ (∀ b, (Value.slice a2 D.events.length c2).ownBlock = some b → w.heap.size ≤ b) := by
 refine (zox hT (n := 20000 * k) (by omega) w s S F hS h.ok (by have := h.size; omega)).mono ?_; rintro e w' ⟨kv, ev, rfl, h1, h2, h3, h4, h5⟩; rw [zlc h] at h1; rw [h.cpl.events] at h2; obtain ⟨a1, c1, rfl, _, _, _⟩ := h1.shape; obtain ⟨a2, c2, rfl, _, _, _⟩ := h2.shape; exact ⟨a1, c1, a2, c2, by rw [h.rev, h.cpl.mark], h1, h2, h3, h4, h5⟩
def zqd (TA : zao) (l : List CalQ) (w : World) (e : Ending) (w' : World) : Prop := ∃ s a1 c1 a2 c2 b, e = .returned (.tuple #[.pointer (some ⟨s, 0, none⟩), docV (donesT l l.length).2 (.slice a1 (donesT l l.length).2.kvs.length c1) (.slice a2 (donesT l l.length).2.events.length c2), .bool b]) ∧
 SlF w' 99 6 kvC (.slice a1 (donesT l l.length).2.kvs.length c1) (donesT l l.length).2.kvs ∧ SlF w' 101 13 evC (.slice a2 (donesT l l.length).2.events.length c2) (donesT l l.length).2.events ∧ (b = true ↔ zbe (donesT l l.length).2) ∧
 ∃ F, zaj TA w' s (donesT l l.length).1 F ∧ Fr No w w' ∧ (∀ b, F b → w.heap.size ≤ b) ∧ (∀ b, (Value.slice a1 (donesT l l.length).2.kvs.length c1).ownBlock = some b → ¬ F b ∧ w.heap.size ≤ b) ∧ (∀ b, (Value.slice a2 (donesT l l.length).2.events.length c2).ownBlock = some b → ¬ F b ∧ w.heap.size ≤ b)
set_option maxHeartbeats 8000000 in
theorem zjp {TA : zao} (hT : TreeOk TA 1000000) (hTD : TreeDl TA) (w : World) (v : Value) (l : List CalQ) (hv : CalR w v l) (hf : zbg l = true) (hsm : DocSm (donesT l l.length).2) :
 Calls Tryz.prog 30 #[v] w (zqd TA l w) := by
 obtain ⟨h1, h2⟩ := zbj hf; have hgd := zcs hf; obtain ⟨hv, hops, hkeys⟩ := hv; obtain ⟨a, cap, rfl, hc1, hc2, ha⟩ := hv.shape; have HV := H_ hv; have HA := H_ ha; have HO := H_ hops; have HK := H_ hkeys; have HG := H_ hgd; have H2 := H_ h2; clear hv ha hops hkeys hgd hf h2; have HSM := H_ hsm; clear hsm; have hzb := zad w (Obj.cells #[.int .i64 0, .int .i64 0, .slice none 0 0, .slice none 0 0] 30) _ rfl; have hf0 : Fr No w (w.alloc (Obj.cells #[.int .i64 0, .int .i64 0, .slice none 0 0, .slice none 0 0] 30)) := (Fr.refl No w).alloc _; have HZB := H_ hzb; have HF0 := H_ hf0; clear hzb hf0; go_enter Tryz.func30, Tryz.ntmps30; go_wp2_with (go_at_call 17; refine (zfk hT _).mono ?_; rintro e w1 ⟨s, rfl, F0, hs0, hf1, hn0⟩); have HS0 : Hid (zaj TA w1 s (donesT l 0).1 F0) := H_ hs0; have HN0 : Hid (∀ b, F0 b → w.heap.size + 1 ≤ b) := H_ (fun b hb => by have := hn0 b hb; simpa using this)
 have HB0 := H_ (hf1.heap HZB.out id); have HF1 := H_ (HF0.out.trans0 hf1); clear hs0 hn0 hf1
 go_loopg [6] l.length (fun g s6 wr => ∃ (i : Nat) (F : Nat → Prop), s6 = .int .i64 i ∧ i + g = l.length ∧ Hid (zaj TA wr s (donesT l i).1 F) ∧ Hid (Fr No w wr) ∧ Hid (∀ b, F b → w.heap.size + 1 ≤ b) ∧ Hid (wr.heap[w.heap.size]? = some (.cells #[.int .i64 0, .int .i64 0, .slice none 0 0, .slice none 0 0] 30 (0, 0))))
 case atStart => exact ⟨0, F0, rfl, by simp, HS0, HF1, HN0, HB0⟩
 case round =>
  obtain ⟨i, F, rfl, hi, HS, HF, HN, HBZ⟩ := hrel
  cases gk with
  | zero =>
    have hil : ¬ (i : Int) < (l.length : Int) := (by omega); have hie : i = l.length := (by omega); subst hie; have hG := HG.out l.length (Nat.le_refl _); have hst := zms hT hG (by omega) wr s F HS.out; generalize hSD : donesT l l.length = SD at *; obtain ⟨S, D⟩ := SD; have HSD := H_ hSD; clear hSD; dsimp only at hG hst HSM HS ⊢
    have HST := H_ hst; clear hst hG; go_upto_region 7 with (go_at_call 23; with_reducible refine HST.out.mono ?_; rintro e w2 ⟨a1, c1, a2, c2, rfl, hk2, he2, hf2, hn1, hn2⟩; unfold stateV); have hbz := hf2.heap HBZ.out id; have lbz := zaa hbz; have hS2 := HS.out.fr0 hT hf2; have hFlt := HS.out.lt hT; have hsz2 := hf2.size; have hcr : Hid (∀ W, Fr No w2 W → Calls Tryz.prog 25 #[docV D (.slice a1 D.kvs.length c1) (.slice a2 D.events.length c2)] W (RightR D W)) := H_ fun W hW => zis W D _ _ ⟨(hk2.toR zaf).fr0 hW, (he2.toR zab).fr0 hW⟩ HSM.out; unfold docV at hcr; have hcp := fun W => znj W D.rev D.mark D.kvs.length D.events.length c1 c2 a1 a2; unfold stateV at hcp; have HCP := H_ hcp; have HK2 := H_ hk2; have HE2 := H_ he2; have HS2 := H_ hS2; have HF2 := H_ (HF.out.trans0 hf2); have HBZ2 := H_ hbz; have HN1 := H_ hn1; have HN2 := H_ hn2; have HFL := H_ hFlt; have HCR := hcr
    clear hk2 he2 hS2 hf2 hbz hn1 hn2 hFlt hcp hcr; have hW3 : Fr No w2 (w2.alloc (Obj.cells #[.int .i64 D.rev, .int .i64 D.mark, .slice a1 D.kvs.length c1, .slice a2 D.events.length c2] 42)) := (Fr.refl No w2).alloc _; have hnb := zad w2 (Obj.cells #[.int .i64 D.rev, .int .i64 D.mark, .slice a1 D.kvs.length c1, .slice a2 D.events.length c2] 42) _ rfl; generalize w2.alloc (Obj.cells #[.int .i64 D.rev, .int .i64 D.mark, .slice a1 D.kvs.length c1, .slice a2 D.events.length c2] 42) = W3 at *; generalize w2.heap.size = nb at *; obtain ⟨k0, k1, k2, k3⟩ := cells4 hnb; have lnb := zaa hnb; have HW3 := H_ hW3; clear hnb hW3
    have HQ : Hid (∀ W, Fr No W3 W → W.cell? ⟨nb, 0, none⟩ = some (.int .i64 D.rev) ∧ W.cell? ⟨nb, 1, none⟩ = some (.int .i64 D.mark) ∧ W.cell? ⟨nb, 2, none⟩ = some (.slice a1 D.kvs.length c1) ∧ W.cell? ⟨nb, 3, none⟩ = some (.slice a2 D.events.length c2)) := H_ fun W hW => ⟨hW.cell0 k0, hW.cell0 k1, hW.cell0 k2, hW.cell0 k3⟩; have q1 := HQ.out _ (Fr.refl No W3); have q2 := HQ.out _ (Fr.refl No W3).drew; have C1 := H_ (HCP.out W3.drew)
    go_region_held3 (fun W => W.cell? ⟨nb, 0, none⟩ = some (.int .i64 D.rev) ∧ W.cell? ⟨nb, 1, none⟩ = some (.int .i64 D.mark) ∧ W.cell? ⟨nb, 2, none⟩ = some (.slice a1 D.kvs.length c1) ∧ W.cell? ⟨nb, 3, none⟩ = some (.slice a2 D.events.length c2))
     (first | with_reducible exact q1 | with_reducible exact q2 | with_reducible exact q4 | with_reducible exact q5 | with_reducible exact q6 | with_reducible exact q7)
     (first
       | (go_at_call 22; (with_reducible refine C1.out.mono ?_); rintro e w4 ⟨rfl, hf4⟩
          have h4 : Fr No W3 w4 := (Fr.refl No W3).drew.trans0 hf4; have q4 := HQ.out _ h4; have C2 := H_ (HCP.out w4); have H4 := H_ h4; clear hf4 h4)
       | (go_at_call 22; (with_reducible refine C2.out.mono ?_); rintro e w5 ⟨rfl, hf5⟩
          have h5 : Fr No W3 w5 := H4.out.trans0 hf5; have q5 := HQ.out _ h5; have C3 := H_ (HCR.out w5 (HW3.out.trans0 h5)); have H5 := H_ h5; clear hf5 h5)
       | (go_at_call 25; (with_reducible refine C3.out.mono ?_); rintro e w6 ⟨b, rfl, hb6, hf6⟩
          have h6 : Fr No W3 w6 := H5.out.trans0 hf6; have q6 := HQ.out _ h6; have z6 := h6.heap (HW3.out.heap HBZ2.out id) id; obtain ⟨y0, y1, y2, y3⟩ := cells4 z6; have yf : ∀ i, w6.frozen? ⟨w.heap.size, i, none⟩ = false := fun i => by unfold World.frozen?; dsimp only; rw [z6]; simp
          have ly := zaa z6; have hst6 : Fr (fun b => b = w.heap.size) w6 ((((w6.setCell ⟨w.heap.size, 0, none⟩ (.int .i64 D.rev)).setCell ⟨w.heap.size, 1, none⟩ (.int .i64 D.mark)).setCell ⟨w.heap.size, 2, none⟩ (.slice a1 D.kvs.length c1)).setCell ⟨w.heap.size, 3, none⟩ (.slice a2 D.events.length c2)) := ((((Fr.refl _ w6).setAt 0 _).setAt 1 _).setAt 2 _).setAt 3 _; have q7 := And.intro (hst6.cell q6.1 (fun e => by have e' : nb = w.heap.size := e; omega)) (And.intro (hst6.cell q6.2.1 (fun e => by have e' : nb = w.heap.size := e; omega)) (And.intro (hst6.cell q6.2.2.1 (fun e => by have e' : nb = w.heap.size := e; omega)) (hst6.cell q6.2.2.2 (fun e => by have e' : nb = w.heap.size := e; omega)))); have HST6 := H_ hst6; clear hst6; have H6 := H_ h6; have Z6 := H_ z6; have HB6 := H_ hb6; clear hf6 h6 z6 hb6))
    have z0 := zac Z6.out 0 (.int .i64 D.rev); have z1 := zac z0 1 (.int .i64 D.mark); have z2 := zac z1 2 (.slice a1 D.kvs.length c1); have z3 := zac z2 3 (.slice a2 D.events.length c2); have HSTZ := HST6.out; clear z0 z1 z2 q1 q2 q4 q5 q6 q7 k0 k1 k2 k3 y0 y1 y2 y3 yf HST6; generalize ((((w6.setCell ⟨w.heap.size, 0, none⟩ (.int .i64 D.rev)).setCell ⟨w.heap.size, 1, none⟩ (.int .i64 D.mark)).setCell ⟨w.heap.size, 2, none⟩ (.slice a1 D.kvs.length c1)).setCell ⟨w.heap.size, 3, none⟩ (.slice a2 D.events.length c2)) = Z at *; simp at z3; have HZ3 := H_ z3; obtain ⟨c0, c1', c2', c3'⟩ := cells4 z3; clear z3; go_wp2; have hww6 : Fr No w w6 := HF2.out.trans0 (HW3.out.trans0 H6.out)
    have hwZ : Fr No w Z := ⟨HSTZ.os.trans hww6.os, HSTZ.tape.trans hww6.tape, HSTZ.output.trans hww6.output, Nat.le_trans hww6.size HSTZ.size, fun k hk _ => (HSTZ.block k (Nat.lt_of_lt_of_le hk hww6.size) (fun e => by have e' : k = w.heap.size := e; omega)).trans (hww6.block k hk id)⟩; have h26 : Fr (fun b => b = w.heap.size) w2 Z := ((HW3.out.trans0 H6.out).mono (fun _ _ h => h.elim)).trans HSTZ fun _ _ h => h; refine bodyPost_ret (v := .tuple #[.pointer (some ⟨s, 0, none⟩), docV D (.slice a1 D.kvs.length c1) (.slice a2 D.events.length c2), .bool b]) ?_ rfl ?_
    · unfold docV
      simp [results, Tryz.results30, go_sem, c0, c1', c2', c3']
    unfold zqd
    rw [HSD.out]; have hF1 : ∀ b, F b → w.heap.size ≤ b ∧ b ≠ w.heap.size := fun b hb => by have := HN.out b hb; omega
    refine ⟨s, a1, c1, a2, c2, b, rfl, HK2.out.fr h26 (fun b hb e => ?_), HE2.out.fr h26 (fun b hb e => ?_), HB6.out, F, HS2.out.fr hT h26 (fun b hb e => (hF1 b hb).2 e), hwZ, fun b hb => (hF1 b hb).1, fun b hb => ⟨fun h => ?_, ?_⟩, fun b hb => ⟨fun h => ?_, ?_⟩⟩
    · have h1 := HN1.out b hb; have e' : b = w.heap.size := e; have := zaa HBZ.out; omega
    · have h1 := HN2.out b hb; have e' : b = w.heap.size := e; have := zaa HBZ.out; omega
    · have h1 := HN1.out b hb; have := HFL.out b h; omega
    · have h1 := HN1.out b hb; have := HF.out.size; omega
    · have h1 := HN2.out b hb; have := HFL.out b h; omega
    have h1 := HN2.out b hb; have := HF.out.size; omega
  | succ g =>
    obtain ⟨gb, go, rfl⟩ := HA.out (by omega); obtain ⟨q, hx⟩ : ∃ q, l[i]? = some q := ⟨_, List.getElem?_eq_getElem (by omega)⟩; have hvr := HV.out.fr0 HF.out; have x0 := hvr.cell0 zat i hx rfl; have x1 := hvr.cell zat i 1 hx rfl; have x2 := hvr.cell zat i 2 hx rfl; have x3 := hvr.cell zat i 3 hx rfl; have x4 := hvr.cell zat i 4 hx rfl; have x5 := hvr.cell zat i 5 hx rfl; have x6 := hvr.cell zat i 6 hx rfl; have x7 := hvr.cell zat i 7 hx rfl; have x8 := hvr.cell zat i 8 hx rfl; have x9 := hvr.cell zat i 9 hx rfl; have x10 := hvr.cell zat i 10 hx rfl; have x11 := hvr.cell zat i 11 hx rfl; have hil : (i : Int) < (l.length : Int) := (by omega); have hops := HO.out i q hx; have hkeys := HK.out i q hx
    have hdo := zwn hT hTD (HG.out i (by omega)) (by omega) wr s F HS.out q (H2.out q (List.mem_of_getElem? hx)) (hops.fr0 HF.out) (hkeys.fr0 HF.out)
     (fun hp b hb hF => by have := hops.lt zag (by decide) hp b hb; have := HN.out b hF; omega) (fun hp b hb hF => by have := hkeys.lt zdr (by decide) hp b hb; have := HN.out b hF; omega)
    have hsu := zcx l hx; obtain ⟨oa, ocap, hos, _, _, _⟩ := hops.shape; obtain ⟨ka, kcap, hks, _, _, _⟩ := hkeys.shape; have HDO := H_ hdo; have HSU := H_ hsu; clear hdo hsu hx hvr hops hkeys; obtain ⟨⟨p1, p2, ⟨g1, g2, g3, g4, g5, g6, g7⟩, p3, p4, p5⟩, ops, keys⟩ := q; dsimp only at hos hks; subst hos hks; unfold calC rgC at *; dsimp only at *; go_wp2_with (go_at_call 27; refine HDO.out.mono ?_; rintro e w2 ⟨rfl, F2, hs2, hf2, hn2⟩); go_roundg g
    case rel =>
     have hsz := HF.out.size; have hzl := zaa HBZ.out
     exact ⟨i + 1, F2, by go_num, by omega, H_ (by rw [HSU.out]; exact hs2), H_ (HF.out.trans hf2 fun b hb h => by have := HN.out b h; omega), H_ fun b hb => by
      rcases hn2 b hb with h | h
      · exact HN.out b h
      omega, H_ (hf2.heap HBZ.out (fun h => by have := HN.out _ h; omega))⟩
    case measure => omega
def PrevOk (D : Doc) : Prop := ∀ e ∈ D.events, e.prev = kv0 ∨ e.prev.key = e.kv.key
theorem zvv {l : List Kv} {k : ByteArray} : (hasL l k).getD kv0 = kv0 ∨ ((hasL l k).getD kv0).key = k := by
 unfold hasL
 cases h : l.find? fun x => keq x.key k with
 | none => exact .inl rfl
 | some y =>
   have := List.find?_some h; exact .inr (zar.1 this)
theorem PrevOk.cut {D : Doc} (h : PrevOk D) (R : Int) : PrevOk (D.cut R) := fun e he => h e (List.mem_filter.1 he).1
theorem DocOk.prevs {n : Nat} {D : Doc} (h : DocOk n D) {e : Ev} (he : e ∈ D.events) (hm : D.mark < e.kv.mod) : e.prev = kv0 ∨ e.prev.key = e.kv.key := by
 obtain ⟨A, B, hAB⟩ := List.append_of_mem he; rw [h.prev A e B hAB hm]; exact zvv
theorem PrevOk.adds {n : Nat} {D : Doc} {E : List Ev} (h : PrevOk D) (hd : DocOk n (D.adds E)) (hm : ∀ e ∈ E, e.kv.mod = D.rev + 1) (hmr : D.mark ≤ D.rev) : PrevOk (D.adds E) := by
 obtain ⟨a, b, c⟩ := Doc.adds_parts D E; intro e he; have he' := he; rw [c] at he'; rcases List.mem_append.1 he' with h1 | h1
 · exact h e h1
 exact hd.prevs he (by rw [a, hm e h1]; omega)
theorem zsw {k : Nat} {S : St} {D : Doc} (h : Good k S D) (hk : k ≤ 70) {q : CalQ} (hq : fewCal q = true) (hD : PrevOk D) : PrevOk (doD S D q) := by
 obtain ⟨f1, f2, f3, f4, f5⟩ := zew hq; have hm0 := h.cpl.m0; unfold doD; by_cases h4 : kindN q.1.kind = 4
 · rw [if_pos h4]; exact hD
 rw [if_neg h4]
 by_cases h5 : kindN q.1.kind = 5
 · rw [if_pos h5]
   split
   · exact hD.cut _
   exact hD
 rw [if_neg h5]
 by_cases h6 : kindN q.1.kind = 6
 · rw [if_pos h6]; exact hD
 rw [if_neg h6]
 by_cases h7 : kindN q.1.kind = 7
 · rw [if_pos h7]
   obtain ⟨a, _⟩ := h.drops hk q.2.2 f3 q.2.2.length (Nat.le_refl _); have he : dropTo (D.rev + 1) S q.2.2 q.2.2.length = q.2.2.foldl (dropR (D.rev + 1)) (S, []) := (by unfold dropTo; rw [List.take_length]); rw [he] at a; exact hD.adds a.doc a.mods hm0.2
 rw [if_neg h7]
 by_cases ha : applyE S q.2.1 = 0
 · rw [if_pos ha]
   obtain ⟨⟨a, _⟩, _⟩ := h.runs hk (zbk ha).1 (fun o ho => by have := (f1 o ho).1; omega) q.2.1.length (Nat.le_refl _); rw [List.take_length] at a; exact hD.adds a.doc a.mods hm0.2
 rw [if_neg ha]; exact hD
theorem zrg {l : List CalQ} (h : zbg l = true) : ∀ i ≤ l.length, PrevOk (donesT l i).2 := by
 obtain ⟨h1, h2⟩ := zbj h; have hg := zcs h; intro i
 induction i with
 | zero => intro _ e he; simp [donesT, newD] at he
 | succ i ih =>
   intro hi; obtain ⟨q, hq⟩ : ∃ q, l[i]? = some q := ⟨_, List.getElem?_eq_getElem (by omega)⟩; rw [zcx l hq]; exact zsw (hg i (by omega)) (by omega) (h2 q (List.mem_of_getElem? hq)) (ih (by omega))
theorem zwb {l : List CalQ} (h : zbg l = true) : DocSm (donesT l l.length).2 := by
 obtain ⟨h1, _⟩ := zbj h; have hG := zcs h l.length (Nat.le_refl _); have hK := zgq h l.length (Nat.le_refl _); have hP := zrg h l.length (Nat.le_refl _); generalize donesT l l.length = SD at *; obtain ⟨S, D⟩ := SD; dsimp only at hG hK hP ⊢
 refine ⟨fun k hk => ?_, fun x hx => ⟨?_, ?_⟩, ?_⟩
 · have := (zhz (hK.kvs k hk)).2; omega
 · have := (zhz (hK.evs x hx)).2; omega
 · have h3 := (zhz (hK.evs x hx)).2
   rcases hP x hx with e | e
   · rw [e]; show ByteArray.empty.size ≤ _; exact Nat.zero_le _
   rw [e]; omega
 have hev : D.events.length ≤ 20000 * l.length := by have := hG.ok.ev; rw [← hG.cpl.events]; omega
 have hkl : D.kvs.length ≤ 16 * l.length := by
  have h1 := hG.size; rw [← zlc hG]; unfold zan; exact Nat.le_trans (List.length_filterMap_le _ _) (by omega)
 omega
def allB (S : St) (cs : List Cmp) : Bool := cs.all (holdsB S)
def branch (S : St) (cs : List Cmp) (la lb : List Opr) : List Opr := if allB S cs then la else lb
def noneC : Cmp := ⟨bA, 2, 0, 0, ByteArray.empty⟩
def oneC : Cmp := ⟨bA, 1, 0, 1, ByteArray.empty⟩
def sixC : Cmp := ⟨bA, 6, 0, 0, ByteArray.empty⟩
def S1 : St := applyS st0 [putO bA b1]
def S2 : St := applyS S1 [putO bB b2]
theorem chk_e : txnE [sixC] [] [] = 1 := by kernel_rfl
theorem S2_rev : S2.rev = 2 := by kernel_rfl
theorem zvu : holdsB S2 oneC = true := by kernel_rfl
theorem S2_len : S2.T.length = 2 := by kernel_rfl
theorem zxm : applyS S1 [getO bA] = S1 := by kernel_rfl
theorem zsp : ((runR (S1.rev + 1) ⟨S1, [], []⟩ [getO bA]).A).map (fun a => (a.kvs.length, a.count)) = [(1, 1)] := by kernel_rfl
end Go.Proofs.YthljnnjpmdgkoaaGreat