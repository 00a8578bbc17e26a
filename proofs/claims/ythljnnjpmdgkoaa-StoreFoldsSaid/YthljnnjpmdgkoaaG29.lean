/- The store's State: its revisions, what lived at the mark, the events. The condition: histories are small. The reference's SameKv, SameKvs, SameEvents and the law's Same answer true where both sides have the same; the law's Plain. The condition: lists are not too long. Ops of the chapters' examples: a put of a key, a get; what they ask of a run. Plain facts; no program is run. -/
import Derived.Test.YthljnnjpmdgkoaaG07
import Derived.Test.YthljnnjpmdgkoaaG28
import Derived.Test.YthljnnjpmdgkoaaG14
import Derived.Test.YthljnnjpmdgkoaaG19
import Derived.Test.YthljnnjpmdgkoaaG09
import Derived.Test.YthljnnjpmdgkoaaG12
import Derived.Deep.RegionHeld3
import Derived.Deep.DeepCutAuto
import Derived.BigRegion
namespace Go.Proofs.Ythljnnjpmdgkoaa
open Go Go.Proofs Go.RowKit
set_option maxRecDepth 100000

theorem evC_one1 (x : Ev) : ∀ u ∈ evC x, u.oneCell' = true := fun u hu => evC_one (L := [x]) (by simpa using hu)
theorem st_stored {X : World} {b : Nat} {a0 a1 a2 a3 : Value} (hk : X.heap[b]? = some (.cells #[a0, a1, a2, a3] 69 (0, 0))) (r m kv ev : Value) :
    ∃ Z, ((((X.setCell ⟨b, 0, none⟩ r).setCell ⟨b, 1, none⟩ m).setCell ⟨b, 2, none⟩ kv).setCell ⟨b, 3, none⟩ ev) = Z ∧ Z.heap[b]? = some (.cells #[r, m, kv, ev] 69 (0, 0)) ∧ Fr (fun x => x = b) X Z := by
  have z1 := heap_setCell_same hk 0 r
  have z2 := heap_setCell_same z1 1 m
  have z3 := heap_setCell_same z2 2 kv
  have z4 := heap_setCell_same z3 3 ev
  refine ⟨_, rfl, by rw [z4]; simp, ((((Fr.refl (fun x => x = b) X).setAt 0 r).setAt 1 m).setAt 2 kv).setAt 3 ev⟩

def stateV (r m : Int) (kv ev : Value) : Value := .agg #[.int .i64 r, .int .i64 m, kv, ev]

set_option maxHeartbeats 8000000 in
theorem State_calls {TA : TreeRel} {N : Nat} (hT : TreeOk TA N) {n : Nat} (hn : n ≤ 1099511627) (w : World) (s : Nat) (S : St) (F : Nat → Prop) (hS : StoreAt TA w s S F) (hok : StOk n S) (hN : S.T.length ≤ 1099511627) :
    Calls Try.prog 37 #[.pointer (some ⟨s, 0, none⟩)] w fun e w' => ∃ kv ev, e = .returned (stateV S.rev S.mark kv ev) ∧ SlF w' 57 6 kvC kv (betweenL S S.T S.mark) ∧ SlF w' 73 13 evC ev S.events ∧ Fr No w w' ∧ (∀ b, kv.ownBlock = some b → w.heap.size ≤ b) ∧ (∀ b, ev.ownBlock = some b → w.heap.size ≤ b) := by
  have hhad := fun W hW at_ H hH => had_calls hT hn W s S F hW hok at_ S.mark H hH
  have hSA := Lib.hid hS
  obtain ⟨t, p, ev, hp, FT, FH, a, hF⟩ := hS
  have c0 := a.obj.cell 0 rfl
  have c3 := a.obj.cell 3 rfl
  have c4 := a.obj.cell 4 rfl
  have c5 := a.obj.cell 5 rfl
  have ls := a.obj.lt
  have hes := a.events
  have hevl := hok.ev
  have hlen := fun W (h : Fr No w W) => hT.len (w := W) (t := t) (T := S.T) (F := FT) (hT.fr a.tree h fun _ _ s => s)
  have hrng := fun W (h : Fr No w W) => hT.range (w := W) (t := t) (T := S.T) (F := FT) ⟨#[]⟩ ⟨#[]⟩ (hT.fr a.tree h fun _ _ s => s)
  simp only [rangeT_all] at hrng
  have HLEN := Lib.hid hlen
  have HRNG := Lib.hid hrng
  have HH := Lib.hid hhad
  have HOk := Lib.hid hok.id
  have HES := Lib.hid hes
  clear a hF hes hlen hrng hhad
  go_enter Try.func37, Try.ntmps37
  go_upto_region 3 with fail
  have hf0 : Fr No w (w.alloc (Obj.cells #[.int .i64 0, .int .i64 0, .slice none 0 0, .slice none 0 0] 69)) := (Fr.refl No w).alloc _
  have hb0 := alloc_at w (Obj.cells #[.int .i64 0, .int .i64 0, .slice none 0 0, .slice none 0 0] 69) _ rfl
  generalize w.alloc (Obj.cells #[.int .i64 0, .int .i64 0, .slice none 0 0, .slice none 0 0] 69) = W0 at *
  have d3 := hf0.cell0 c3
  have d4 := hf0.cell0 c4
  have ls0 : s < W0.heap.size := Nat.lt_of_lt_of_le ls hf0.size
  go_region
  go_upto_region 4 with fail
  have hb1 : ((W0.alloc (Obj.cells #[.int .i64 S.rev, .int .i64 S.mark, .slice none 0 0, .slice none 0 0] 69)).drew).heap[W0.heap.size]? = some (.cells #[.int .i64 S.rev, .int .i64 S.mark, .slice none 0 0, .slice none 0 0] 69 (0, 0)) := alloc_at _ _ _ rfl
  have hb01 : ((W0.alloc (Obj.cells #[.int .i64 S.rev, .int .i64 S.mark, .slice none 0 0, .slice none 0 0] 69)).drew).heap[w.heap.size]? = some (.cells #[.int .i64 0, .int .i64 0, .slice none 0 0, .slice none 0 0] 69 (0, 0)) := alloc_old hb0 _
  have hf1 : Fr No w ((W0.alloc (Obj.cells #[.int .i64 S.rev, .int .i64 S.mark, .slice none 0 0, .slice none 0 0] 69)).drew) := (hf0.alloc _).drew
  have lw0 := heap_lt hb0
  clear d3 d4 hf0 hb0
  generalize (W0.alloc (Obj.cells #[.int .i64 S.rev, .int .i64 S.mark, .slice none 0 0, .slice none 0 0] 69)).drew = W1 at *
  have d0 := hf1.cell0 c0
  have ls1 : s < W1.heap.size := Nat.lt_of_lt_of_le ls hf1.size
  go_region_held3 (fun W => W.cell? ⟨s, 0, none⟩ = some (.pointer (some ⟨t, 0, none⟩)))
    (first | assumption | exact hf7.cell0 d0)
    (first
      | (go_at_call 70; refine (HLEN.out _ (hf1.trans0 (by (repeat (first | with_reducible exact Fr.refl _ _ | with_reducible refine Fr.drew ?_)); done))).mono ?_; rintro e w' ⟨rfl, rfl⟩)
      | (go_at_call 69; refine (HRNG.out _ (hf1.trans0 (by (repeat (first | with_reducible exact Fr.refl _ _ | with_reducible refine Fr.drew ?_)); done))).mono ?_; rintro e w7 ⟨pv, rfl, hpv, hf7, hpn⟩; obtain ⟨pa, pcap, rfl, hp1, hp2, hp3⟩ := hpv.shape))
  have hf17 : Fr No W1 w7 := (by first | exact hf7 | exact (Fr.refl No W1).drew.trans0 hf7)
  have hb7 := hf17.heap hb1 id
  have hb07 := hf17.heap hb01 id
  have hf07 : Fr No w w7 := hf1.trans0 hf17
  have hs17 := hf17.size
  have l1 := heap_lt hb1
  have hpn7 : ∀ b, (Value.slice pa S.T.length pcap).ownBlock = some b → W1.heap.size ≤ b := fun b hb => by have := hpn b hb; have h' : W1.heap.size ≤ b := this; omega
  have HB7 := Lib.hid hb7
  have HB07 := Lib.hid hb07
  have HF7 := Lib.hid hf07
  have HPV := Lib.hid hpv
  have HPN := Lib.hid hpn7
  have HP3 := Lib.hid hp3
  have hST : ∃ St1 : Nat, W0.heap.size = St1 ∧ w.heap.size < St1 ∧ St1 < w7.heap.size := ⟨_, rfl, lw0, by omega⟩
  obtain ⟨sb, hsb, hsb1, hsb2⟩ := hST
  rw [hsb] at HB7
  have hsb3 : sb < W1.heap.size := by omega
  clear hb7 hb07 hf07 hpv hpn7 hp3 hb1 hb01 hpn hf7 hf17 d0
  obtain ⟨i0, hi0, hz0, hz1, hz2⟩ := info_parts info57
  have hcap : S.T.length ≤ 1099511627 := hN
  have HOK2 := Lib.hid hok
  rw [hsb]
  go_wp2
  go_loopg [31] S.T.length (fun g s31 wr => ∃ (i : Nat) (o : Value), s31 = .int .i64 i ∧ i + g = S.T.length ∧ Hid (wr.heap[sb]? = some (.cells #[.int .i64 S.rev, .int .i64 S.mark, o, .slice none 0 0] 69 (0, 0))) ∧ Hid (SlF wr 57 6 kvC o (betweenL S (S.T.take i) S.mark)) ∧ Hid (Fr (fun b => b = sb) w7 wr) ∧ Hid (∀ b, o.ownBlock = some b → w7.heap.size ≤ b))
  case atStart => exact ⟨0, _, rfl, by simp, HB7, Lib.hid (SlF.nil _ _ _ _), Lib.hid (Fr.refl _ _), Lib.hid (by simp [Value.ownBlock])⟩
  case round =>
    obtain ⟨i, o, rfl, hi, HBR, HO, HFR, HOn⟩ := hrel
    have lsb := heap_lt HBR.out
    have hfw : Fr No w wr := HF7.out.trans HFR.out fun b hb e => by have e' : b = sb := e; omega
    have HFW := Lib.hid hfw
    have r0 := hfw.cell0 c0
    have r4 := hfw.cell0 c4
    have r5 := hfw.cell0 c5
    have lsr : s < wr.heap.size := Nat.lt_of_lt_of_le ls hfw.size
    have b2 : wr.cell? ⟨sb, 2, none⟩ = some o := by unfold World.cell?; dsimp only; rw [HBR.out]; rfl
    have b3 : wr.cell? ⟨sb, 3, none⟩ = some (.slice none 0 0) := by unfold World.cell?; dsimp only; rw [HBR.out]; rfl
    have bfz : ∀ j, wr.frozen? ⟨sb, j, none⟩ = false := fun j => by unfold World.frozen?; dsimp only; rw [HBR.out]; simp
    obtain ⟨oa, ocap, rfl, ho1, ho2, ho3⟩ := HO.out.shape
    clear ho3 hfw
    cases gk with
    | zero =>
      have hil : ¬ (i : Int) < (S.T.length : Int) := by omega
      go_upto_region 11 with fail
      have hti : S.T.take i = S.T := List.take_of_length_le (by omega)
      rw [hti] at HO HOn ho1 b2 HBR
      obtain ⟨j0, hj0, hy0, hy1, hy2⟩ := info_parts info73
      have hnl := hok.ev
      have hwd := HFW.out.drew
      have hsE := HES.out.fr0 hwd
      obtain ⟨ea, ecap, rfl, he1, he2, he3⟩ := hsE.shape
      have HSE := Lib.hid hsE
      have HOo := Lib.hid (show (Value.slice oa (betweenL S S.T S.mark).length ocap).ownBlock ≠ some sb from fun h => by have := HOn.out sb h; omega)
      clear hsE he3 hwd
      go_region_law (refine step_append_all rfl _ _ 34 rfl 73 j0 _ 13 136 Try.underlying34 hj0 hy0 hy1 hy2 rfl (by decide) evC_length evC_one1 (.slice none 0 0) (.slice ea S.events.length ecap) [] S.events rfl rfl (SlF.nil _ _ _ _) HSE.out (by unfold maxLen; simp; try omega) (by simp; try omega) ?_; intro v4 w4 hs4 hf4 hb4; obtain ⟨va, vcap, rfl, _, _, _⟩ := hs4.shape; have hq4 : Fr No wr.drew w4 := hf4.mono (fun b _ h => by simp [Value.ownBlock] at h); have hb4' := hq4.heap (show wr.drew.heap[sb]? = _ from HBR.out) id; have v3 : w4.cell? ⟨sb, 3, none⟩ = some (.slice none 0 0) := (by simp [World.cell?, hb4']); have v3f : w4.frozen? ⟨sb, 3, none⟩ = false := (by simp [World.frozen?, hb4']); have l4 := heap_lt hb4'; have HS4 := Lib.hid hs4; have HQ4 := Lib.hid hq4; have HB4 := Lib.hid hb4'; have HBN := Lib.hid hb4; clear hs4 hf4 hb4 hq4 hb4')
      all_goals
        have hset := heap_setCell_same HB4.out 3 (.slice va S.events.length vcap)
        have hfs : Fr (fun b => b = sb) w4 (w4.setCell ⟨sb, 3, none⟩ (.slice va S.events.length vcap)) := (Fr.refl _ w4).setAt 3 _
        have hb0r := HFR.out.heap HB07.out (fun e => by have e' : w.heap.size = sb := e; omega)
        have hb04 := HQ4.out.heap (show wr.drew.heap[w.heap.size]? = _ from hb0r) (fun h => h)
        have hb05 := hfs.heap hb04 (fun e => by have e' : w.heap.size = sb := e; omega)
        have hev5 := HS4.out.fr hfs fun b hb e => by
          have e' : b = sb := e
          have h1 := HBN.out b hb
          rcases h1 with h1 | h1
          · simp [Value.ownBlock] at h1
          · have h2 : wr.heap.size ≤ b := h1
            omega
        have hkv5 := ((HO.out.fr0 (Fr.refl No wr).drew).fr0 HQ4.out).fr hfs fun b hb e => by
          have e' : b = sb := e
          exact HOo.out (by rw [← e']; exact hb)
        have hq5 : Fr No w (w4.setCell ⟨sb, 3, none⟩ (.slice va S.events.length vcap)) := (HFW.out.drew.trans0 HQ4.out).trans hfs fun b hb e => by
          have e' : b = sb := e
          omega
        generalize w4.setCell ⟨sb, 3, none⟩ (.slice va S.events.length vcap) = W5 at *
        have hst : ∃ row, W5.heap[sb]? = some (.cells row 69 (0, 0)) ∧ row = #[.int .i64 S.rev, .int .i64 S.mark, .slice oa (betweenL S S.T S.mark).length ocap, .slice va S.events.length vcap] := ⟨_, hset, by simp⟩
        obtain ⟨row, hset, rfl⟩ := hst
        have s0 : W5.cell? ⟨sb, 0, none⟩ = some (.int .i64 S.rev) := by simp [World.cell?, hset]
        have s1 : W5.cell? ⟨sb, 1, none⟩ = some (.int .i64 S.mark) := by simp [World.cell?, hset]
        have s2 : W5.cell? ⟨sb, 2, none⟩ = some (.slice oa (betweenL S S.T S.mark).length ocap) := by simp [World.cell?, hset]
        have s3 : W5.cell? ⟨sb, 3, none⟩ = some (.slice va S.events.length vcap) := by simp [World.cell?, hset]
        have t0 : W5.cell? ⟨w.heap.size, 0, none⟩ = some (.int .i64 0) := by simp [World.cell?, hb05]
        have t1 : W5.cell? ⟨w.heap.size, 1, none⟩ = some (.int .i64 0) := by simp [World.cell?, hb05]
        have t2 : W5.cell? ⟨w.heap.size, 2, none⟩ = some (.slice none 0 0) := by simp [World.cell?, hb05]
        have t3 : W5.cell? ⟨w.heap.size, 3, none⟩ = some (.slice none 0 0) := by simp [World.cell?, hb05]
        have tf : ∀ i, W5.frozen? ⟨w.heap.size, i, none⟩ = false := fun i => by simp [World.frozen?, hb05]
        have lt5 := heap_lt hb05
        have lb5 := heap_lt hset
        obtain ⟨Z, hZ, hz6, hzf⟩ := st_stored hb05 (.int .i64 S.rev) (.int .i64 S.mark) (.slice oa (betweenL S S.T S.mark).length ocap) (.slice va S.events.length vcap)
        have HKV5 := Lib.hid hkv5
        have HEV5 := Lib.hid hev5
        have HQ5 := Lib.hid hq5
        have HZ := Lib.hid hZ
        have HZ6 := Lib.hid hz6
        have HZF := Lib.hid hzf
        clear hset hfs hb0r hb04 hb05 hev5 hkv5 hq5 hZ hz6 hzf v3 v3f l4
        go_wp2
        rw [HZ.out]
        have hsz := HFW.out.size
        refine bodyPost_ret (results_cell_row rfl _ _ w.heap.size 69 _ (0, 0) _ rfl HZ6.out Try.underlying69 rfl (by kernel_rfl)) rfl ⟨.slice oa (betweenL S S.T S.mark).length ocap, .slice va S.events.length vcap, rfl, ?_, ?_, ?_, fun b hb => ?_, fun b hb => ?_⟩
        · refine HKV5.out.fr HZF.out fun b hb e => ?_
          have e' : b = w.heap.size := e
          have h1 := HOn.out b hb
          omega
        · refine (by simpa using HEV5.out : SlF W5 73 13 evC (.slice va S.events.length vcap) S.events).fr HZF.out fun b hb e => ?_
          have e' : b = w.heap.size := e
          rcases HBN.out b hb with h1 | h1
          · simp [Value.ownBlock] at h1
          · have h2 : wr.heap.size ≤ b := h1
            omega
        · exact HQ5.out.trans HZF.out fun b hb e => by
            have e' : b = w.heap.size := e
            omega
        · have h1 := HOn.out b hb
          omega
        · rcases HBN.out b hb with h1 | h1
          · simp [Value.ownBlock] at h1
          · have h2 : wr.heap.size ≤ b := h1
            omega
    | succ g =>
      have hil : (i : Int) < (S.T.length : Int) := by omega
      obtain ⟨gb, go, rfl⟩ := HP3.out (by omega)
      obtain ⟨q, hq⟩ : ∃ q, S.T[i]? = some q := ⟨_, List.getElem?_eq_getElem (by omega)⟩
      have hslr := HPV.out.fr HFR.out (fun b hb e => by have e' : b = sb := e; have := HPN.out b hb; omega)
      have x0 := hslr.cell0 pairC_length i hq rfl
      have x1 := hslr.cell pairC_length i 1 hq rfl
      obtain ⟨H, hH⟩ := HOk.out q (List.mem_of_getElem? hq)
      have hone : oneL S S.mark q = if (hadH H S.mark).2 then some (hadH H S.mark).1 else none := by unfold oneL; rw [hH]
      have hstep : betweenL S (S.T.take (i + 1)) S.mark = betweenL S (S.T.take i) S.mark ++ (oneL S S.mark q).toList := by
        unfold betweenL
        rw [List.take_add_one, hq, List.filterMap_append]
        cases h : oneL S S.mark q <;> simp [h]
      have HST := Lib.hid hstep
      have HON := Lib.hid hone
      have HPH := Lib.hid hH
      have HQ := Lib.hid hq
      clear hstep hone hH hq hslr
      rcases hr : hadH H S.mark with ⟨⟨r1, r2, r3, r4', r5', r6⟩, rb⟩
      rw [hr] at HON
      have HR := Lib.hid hr
      clear hr
      have hob : (betweenL S (S.T.take i) S.mark).length ≤ S.T.length := Nat.le_trans (List.length_filterMap_le _ _) (by simp; omega)
      go_upto_region 7 with fail
      have hk7 := alloc_at wr (Obj.cells #[.string q.1, .int .i64 q.2] 127) _ rfl
      have hfa : Fr No wr (wr.alloc (Obj.cells #[.string q.1, .int .i64 q.2] 127)) := (Fr.refl No wr).alloc _
      generalize wr.alloc (Obj.cells #[.string q.1, .int .i64 q.2] 127) = W2 at *
      have k1 : W2.cell? ⟨wr.heap.size, 1, none⟩ = some (.int .i64 q.2) := by unfold World.cell?; dsimp only; rw [hk7]; rfl
      have k4 := hfa.cell0 r4
      have lk := heap_lt hk7
      have lsk : s < W2.heap.size := Nat.lt_of_lt_of_le lsr hfa.size
      have HFA := Lib.hid hfa
      clear hfa hk7
      have hfZ : Fr No W2 (W2.alloc (Obj.cells #[.string ⟨#[]⟩, .string ⟨#[]⟩, .int .i64 0, .int .i64 0, .int .i64 0, .int .i64 0] 57)) := (Fr.refl No W2).alloc _
      have hzA : (W2.alloc (Obj.cells #[.string ⟨#[]⟩, .string ⟨#[]⟩, .int .i64 0, .int .i64 0, .int .i64 0, .int .i64 0] 57)).heap[W2.heap.size]? = some (.cells #[.string ⟨#[]⟩, .string ⟨#[]⟩, .int .i64 0, .int .i64 0, .int .i64 0, .int .i64 0] 57 (0, 0)) := alloc_at _ _ _ rfl
      have kZ4 := hfZ.cell0 k4
      have kZ1 := hfZ.cell0 k1
      have b1 : W2.cell? ⟨s, 4, none⟩ = some (.int .i64 S.mark) ∧ W2.cell? ⟨wr.heap.size, 1, none⟩ = some (.int .i64 q.2) := ⟨k4, k1⟩
      have b2 : W2.drew.cell? ⟨s, 4, none⟩ = some (.int .i64 S.mark) ∧ W2.drew.cell? ⟨wr.heap.size, 1, none⟩ = some (.int .i64 q.2) := ⟨k4, k1⟩
      have b3 := And.intro kZ4 kZ1
      have b4 : (W2.alloc (Obj.cells #[.string ⟨#[]⟩, .string ⟨#[]⟩, .int .i64 0, .int .i64 0, .int .i64 0, .int .i64 0] 57)).drew.cell? ⟨s, 4, none⟩ = some (.int .i64 S.mark) ∧ (W2.alloc (Obj.cells #[.string ⟨#[]⟩, .string ⟨#[]⟩, .int .i64 0, .int .i64 0, .int .i64 0, .int .i64 0] 57)).drew.cell? ⟨wr.heap.size, 1, none⟩ = some (.int .i64 q.2) := ⟨kZ4, kZ1⟩
      have h1 := hSA.out.fr0 hT (HFW.out.trans0 HFA.out)
      have h2 := h1.fr0 hT (Fr.refl No W2).drew
      have h3 := h1.fr0 hT hfZ
      have h4 := h3.fr0 hT (Fr.refl No _).drew
      have C1 := Lib.hid (HH.out _ h1 q.2 H HPH.out)
      have C2 := Lib.hid (HH.out _ h2 q.2 H HPH.out)
      have C3 := Lib.hid (HH.out _ h3 q.2 H HPH.out)
      have C4 := Lib.hid (HH.out _ h4 q.2 H HPH.out)
      have HZA := Lib.hid hzA
      have HFZ := Lib.hid hfZ
      clear h1 h2 h3 h4 hzA hfZ
      go_cut [6, 7] (fun s6 s7 wx => ∃ b : Nat, s6 = .pointer (some ⟨b, 0, none⟩) ∧ s7 = .bool rb ∧ Hid (wx.heap[b]? = some (.cells #[.string r1, .string r2, .int .i64 r3, .int .i64 r4', .int .i64 r5', .int .i64 r6] 57 (0, 0))) ∧ Hid (Fr No W2 wx))
      case first =>
        go_region_held3 (fun W => W.cell? ⟨s, 4, none⟩ = some (.int .i64 S.mark) ∧ W.cell? ⟨wr.heap.size, 1, none⟩ = some (.int .i64 q.2))
          (first | with_reducible exact b1 | with_reducible exact b2 | with_reducible exact b3 | with_reducible exact b4 | with_reducible exact kw | with_reducible exact kv | with_reducible exact ku | with_reducible exact kt | with_reducible exact kwd | with_reducible exact kvd | with_reducible exact kud | with_reducible exact ktd)
          (first
            | (go_at_call 71; first | refine C1.out.mono ?_ | refine C2.out.mono ?_
               rintro e w3 ⟨rfl, hf3⟩; rw [HR.out]; unfold kvTuple kvV
               have kw : w3.cell? ⟨s, 4, none⟩ = some (.int .i64 S.mark) ∧ w3.cell? ⟨wr.heap.size, 1, none⟩ = some (.int .i64 q.2) := ⟨hf3.cell0 k4, hf3.cell0 k1⟩
               have hfv : Fr No w3 (w3.alloc (Obj.cells #[.string ⟨#[]⟩, .string ⟨#[]⟩, .int .i64 0, .int .i64 0, .int .i64 0, .int .i64 0] 57)) := (Fr.refl No w3).alloc _
               have kv := And.intro (hfv.cell0 kw.1) (hfv.cell0 kw.2)
               have hqd : Fr No w3 w3.drew := (Fr.refl No w3).drew
               have kwd := And.intro (hqd.cell0 kw.1) (hqd.cell0 kw.2)
               have kvd := And.intro (hfv.drew.cell0 kw.1) (hfv.drew.cell0 kw.2)
               have hfu : Fr No w3 (w3.alloc (Obj.cells #[.string r1, .string r2, .int .i64 r3, .int .i64 r4', .int .i64 r5', .int .i64 r6] 57)) := (Fr.refl No w3).alloc _
               have ku := And.intro (hfu.cell0 kw.1) (hfu.cell0 kw.2)
               have kud := And.intro (hfu.drew.cell0 kw.1) (hfu.drew.cell0 kw.2)
               have HQ3 : Hid (Fr No W2 w3) := by first | exact Lib.hid hf3 | exact Lib.hid ((Fr.refl No W2).drew.trans0 hf3))
            | (go_at_call 71; first | refine C3.out.mono ?_ | refine C4.out.mono ?_
               rintro e w3 ⟨rfl, hf3⟩; rw [HR.out]; unfold kvTuple kvV
               have kw : w3.cell? ⟨s, 4, none⟩ = some (.int .i64 S.mark) ∧ w3.cell? ⟨wr.heap.size, 1, none⟩ = some (.int .i64 q.2) := ⟨hf3.cell0 kZ4, hf3.cell0 kZ1⟩
               have hz3 : w3.heap[W2.heap.size]? = some (.cells #[.string ⟨#[]⟩, .string ⟨#[]⟩, .int .i64 0, .int .i64 0, .int .i64 0, .int .i64 0] 57 (0, 0)) := hf3.heap HZA.out (fun h => h)
               have z0 : w3.cell? ⟨W2.heap.size, 0, none⟩ = some (.string ⟨#[]⟩) := by unfold World.cell?; dsimp only; rw [hz3]; rfl
               have z1 : w3.cell? ⟨W2.heap.size, 1, none⟩ = some (.string ⟨#[]⟩) := by unfold World.cell?; dsimp only; rw [hz3]; rfl
               have z2 : w3.cell? ⟨W2.heap.size, 2, none⟩ = some (.int .i64 0) := by unfold World.cell?; dsimp only; rw [hz3]; rfl
               have z3 : w3.cell? ⟨W2.heap.size, 3, none⟩ = some (.int .i64 0) := by unfold World.cell?; dsimp only; rw [hz3]; rfl
               have z4 : w3.cell? ⟨W2.heap.size, 4, none⟩ = some (.int .i64 0) := by unfold World.cell?; dsimp only; rw [hz3]; rfl
               have z5 : w3.cell? ⟨W2.heap.size, 5, none⟩ = some (.int .i64 0) := by unfold World.cell?; dsimp only; rw [hz3]; rfl
               have zf : ∀ i, w3.frozen? ⟨W2.heap.size, i, none⟩ = false := fun i => by unfold World.frozen?; dsimp only; rw [hz3]; simp
               have lz3 := heap_lt hz3
               have hfs : Fr (fun b => b = W2.heap.size) w3 ((((((w3.setCell ⟨W2.heap.size, 0, none⟩ (.string r1)).setCell ⟨W2.heap.size, 1, none⟩ (.string r2)).setCell ⟨W2.heap.size, 2, none⟩ (.int .i64 r3)).setCell ⟨W2.heap.size, 3, none⟩ (.int .i64 r4')).setCell ⟨W2.heap.size, 4, none⟩ (.int .i64 r5')).setCell ⟨W2.heap.size, 5, none⟩ (.int .i64 r6)) := ((((((Fr.refl _ w3).setAt 0 _).setAt 1 _).setAt 2 _).setAt 3 _).setAt 4 _).setAt 5 _
               have kt := And.intro (hfs.cell kw.1 (fun e => by have e' : s = W2.heap.size := e; omega)) (hfs.cell kw.2 (fun e => by have e' : wr.heap.size = W2.heap.size := e; omega))
               have hqd : Fr No w3 w3.drew := (Fr.refl No w3).drew
               have kwd := And.intro (hqd.cell0 kw.1) (hqd.cell0 kw.2)
               have ktd := And.intro (hfs.drew.cell kw.1 (fun e => by have e' : s = W2.heap.size := e; omega)) (hfs.drew.cell kw.2 (fun e => by have e' : wr.heap.size = W2.heap.size := e; omega))
               have HQ3 : Hid (Fr No W2 w3) := by first | exact Lib.hid (HFZ.out.trans0 hf3) | exact Lib.hid (HFZ.out.drew.trans0 hf3)
               have HZ3 := Lib.hid hz3
               clear hz3))
        · go_wp2
          go_meet
          case rel => exact ⟨_, rfl, rfl, Lib.hid (alloc_at _ _ _ rfl), Lib.hid (HQ3.out.alloc _)⟩
        · obtain ⟨Z, hZ, hz6, hzf⟩ := kv_stored (w := W2) HZ3.out ⟨r1, r2, r3, r4', r5', r6⟩
          dsimp only at hZ hz6
          rw [hZ]
          go_wp2
          go_meet
          case rel => exact ⟨_, rfl, rfl, Lib.hid hz6, Lib.hid (hzf HQ3.out (Nat.le_refl _))⟩
      case rest =>
        obtain ⟨b, rfl, rfl, HBK, HX⟩ := hcut
        have hfc : Fr No wr wc := HFA.out.trans0 HX.out
        have HFC := Lib.hid hfc
        have hbc := hfc.heap HBR.out id
        have lbk := heap_lt HBK.out
        have lsc := heap_lt hbc
        have e2 : wc.cell? ⟨sb, 2, none⟩ = some (.slice oa (betweenL S (S.T.take i) S.mark).length ocap) := by unfold World.cell?; dsimp only; rw [hbc]; rfl
        have efz : ∀ j, wc.frozen? ⟨sb, j, none⟩ = false := fun j => by unfold World.frozen?; dsimp only; rw [hbc]; simp
        have y0 : wc.cell? ⟨b, 0, none⟩ = some (.string r1) := by unfold World.cell?; dsimp only; rw [HBK.out]; rfl
        have y1 : wc.cell? ⟨b, 1, none⟩ = some (.string r2) := by unfold World.cell?; dsimp only; rw [HBK.out]; rfl
        have y2 : wc.cell? ⟨b, 2, none⟩ = some (.int .i64 r3) := by unfold World.cell?; dsimp only; rw [HBK.out]; rfl
        have y3 : wc.cell? ⟨b, 3, none⟩ = some (.int .i64 r4') := by unfold World.cell?; dsimp only; rw [HBK.out]; rfl
        have y4 : wc.cell? ⟨b, 4, none⟩ = some (.int .i64 r5') := by unfold World.cell?; dsimp only; rw [HBK.out]; rfl
        have y5 : wc.cell? ⟨b, 5, none⟩ = some (.int .i64 r6) := by unfold World.cell?; dsimp only; rw [HBK.out]; rfl
        have HBC := Lib.hid hbc
        have HSO := Lib.hid (HO.out.fr0 hfc)
        clear hfc hbc x0 x1 k4 k1 kZ4 kZ1 b1 b4 lk lsk r0 r4 r5 b2 b3 bfz
        cases rb
        · have HE : Hid (betweenL S (S.T.take (i + 1)) S.mark = betweenL S (S.T.take i) S.mark) := Lib.hid (by rw [HST.out, HON.out]; simp)
          go_wp2
          go_roundg g
          case rel => exact ⟨i + 1, _, by go_num, by omega, HBC, Lib.hid (by rw [HE.out]; exact HSO.out), Lib.hid (HFR.out.trans0 HFC.out), HOn⟩
          case measure => omega
        · have HE : Hid (betweenL S (S.T.take (i + 1)) S.mark = betweenL S (S.T.take i) S.mark ++ [⟨r1, r2, r3, r4', r5', r6⟩]) := Lib.hid (by rw [HST.out, HON.out]; simp)
          have hnew := cells_new wc (kvC ⟨r1, r2, r3, r4', r5', r6⟩) 57 (0, 0)
          have hob2 : (Value.slice oa (betweenL S (S.T.take i) S.mark).length ocap).ownBlock ≠ some sb := fun h => by have := HOn.out sb h; omega
          have HOB := Lib.hid hob2
          clear hob2
          go_wp2_with (at_builtin; refine wpList_append_f rfl _ _ 53 rfl 57 i0 _ 6 64 Try.underlying53 hi0 hz0 hz1 hz2 rfl (by decide) _ (betweenL S (S.T.take i) S.mark) rfl (HSO.out.alloc _) wc.heap.size 1 (⟨r1, r2, r3, r4', r5', r6⟩ : Kv) rfl hnew rfl ?c1 ?c2 ?c3 ?_)
          case c1 => intro u hu; simp [kvC] at hu; rcases hu with rfl | rfl | rfl | rfl | rfl | rfl <;> rfl
          case c2 => unfold maxLen; omega
          case c3 => omega
          intro g1 o' cap w4 hs4 hg4 hb4 hlt4
          have hf4 : Fr (fun k => (Value.slice oa (betweenL S (S.T.take i) S.mark).length ocap).ownBlock = some k) wc w4 := ((Fr.refl _ wc).alloc _).grown hg4 fun k hk => .inl hk
          have hb4' := hf4.heap HBC.out HOB.out
          have v2 : w4.cell? ⟨sb, 2, none⟩ = some (.slice oa (betweenL S (S.T.take i) S.mark).length ocap) := by unfold World.cell?; dsimp only; rw [hb4']; rfl
          have v2f : ∀ j, w4.frozen? ⟨sb, j, none⟩ = false := fun j => by unfold World.frozen?; dsimp only; rw [hb4']; simp
          have l4 := heap_lt hb4'
          have hg1 : w7.heap.size ≤ g1 := by
            rcases hb4 with e | e
            · exact HOn.out _ e
            · have h1 := HFR.out.size
              have h2 := HFC.out.size
              try simp at e
              omega
          have HS4 := Lib.hid hs4
          have HF4 := Lib.hid hf4
          have HB4 := Lib.hid hb4'
          clear hs4 hg4 hb4 hnew hf4 hb4'
          go_wp2
          go_roundg g
          case rel =>
            have hset := heap_setCell_same HB4.out 2 (.slice (some ⟨g1, o', none⟩) ((betweenL S (S.T.take i) S.mark).length + 1) cap)
            have hfs : Fr (fun b => b = sb) w4 (w4.setCell ⟨sb, 2, none⟩ (.slice (some ⟨g1, o', none⟩) ((betweenL S (S.T.take i) S.mark).length + 1) cap)) := (Fr.refl _ w4).setAt 2 _
            have hsl4 := HS4.out.fr hfs fun b hb e => by
              have e' : b = sb := e
              obtain rfl : g1 = b := by simpa [Value.ownBlock] using hb
              omega
            refine ⟨i + 1, .slice (some ⟨g1, o', none⟩) ((betweenL S (S.T.take i) S.mark).length + 1) cap, by go_num, by omega, Lib.hid (by rw [hset]; simp), Lib.hid (by rw [HE.out]; simpa using hsl4), Lib.hid (((HFR.out.trans0 HFC.out).trans HF4.out fun b hb h => ?_).trans hfs fun b hb e => e), Lib.hid fun b hb => ?_⟩
            · have := HOn.out b h; omega
            · obtain rfl : g1 = b := by simpa [Value.ownBlock] using hb
              exact hg1
          case measure => omega
end Go.Proofs.Ythljnnjpmdgkoaa

namespace Go.Proofs.Ythljnnjpmdgkoaa
open Go Go.Proofs Go.RowKit
set_option maxRecDepth 100000

theorem sameKv_calls (w : World) (x : Kv) : Calls Try.prog 68 #[kvV x, kvV x] w fun e w' => e = .returned (.bool true) ∧ Fr No w w' := by
  obtain ⟨x1, x2, x3, x4, x5, x6⟩ := x
  unfold kvV
  dsimp only
  go_enter Try.func68, Try.ntmps68
  go_wp2
  go_ret
  exact ⟨rfl, ((Fr.refl No w).alloc _).alloc _⟩

set_option maxHeartbeats 4000000 in
theorem sameKvs_calls (w : World) (u v : Value) (L : List Kv) (hu : SlF w 57 6 kvC u L) (hv : SlF w 57 6 kvC v L) (hl : L.length ≤ 1099511627) :
    Calls Try.prog 36 #[u, v] w fun e w' => e = .returned (.bool true) ∧ Fr No w w' := by
  obtain ⟨a, ca, rfl, ha1, ha2, ha3⟩ := hu.shape
  obtain ⟨b, cb, rfl, hb1, hb2, hb3⟩ := hv.shape
  have HU := Lib.hid hu
  have HV := Lib.hid hv
  have HA := Lib.hid ha3
  have HB := Lib.hid hb3
  clear hu hv ha3 hb3
  go_enter Try.func36, Try.ntmps36
  go_wp2
  go_loopg [5] L.length (fun g s5 wr => ∃ i : Nat, s5 = .int .i64 i ∧ i + g = L.length ∧ Hid (Fr No w wr))
  case atStart => exact ⟨0, rfl, by simp, Lib.hid (Fr.refl No w)⟩
  case round =>
    obtain ⟨i, rfl, hi, HF⟩ := hrel
    cases gk with
    | zero =>
      have hil : ¬ (i : Int) < (L.length : Int) := by omega
      go_wp2
      go_ret
      exact ⟨rfl, HF.out⟩
    | succ g =>
      have hil : (i : Int) < (L.length : Int) := by omega
      obtain ⟨x, hx⟩ : ∃ x, L[i]? = some x := ⟨_, List.getElem?_eq_getElem (by omega)⟩
      obtain ⟨ga, oa, rfl⟩ := HA.out (by omega)
      obtain ⟨gb, ob, rfl⟩ := HB.out (by omega)
      have hua := HU.out.fr0 HF.out
      have hvb := HV.out.fr0 HF.out
      have f0 := hua.cell0 kvC_length i hx rfl
      have q0 := hvb.cell0 kvC_length i hx rfl
      have f1 := hua.cell kvC_length i 1 hx rfl
      have q1 := hvb.cell kvC_length i 1 hx rfl
      have f2 := hua.cell kvC_length i 2 hx rfl
      have q2 := hvb.cell kvC_length i 2 hx rfl
      have f3 := hua.cell kvC_length i 3 hx rfl
      have q3 := hvb.cell kvC_length i 3 hx rfl
      have f4 := hua.cell kvC_length i 4 hx rfl
      have q4 := hvb.cell kvC_length i 4 hx rfl
      have f5 := hua.cell kvC_length i 5 hx rfl
      have q5 := hvb.cell kvC_length i 5 hx rfl
      have lf := World.block_lt_of_cell? _ _ f0
      have lq := World.block_lt_of_cell? _ _ q0
      clear hx hua hvb
      obtain ⟨x1, x2, x3, x4, x5, x6⟩ := x
      dsimp only at *
      have HS : Hid (∀ W, Fr No wr W → W.cell? ⟨ga, oa + i * 6, none⟩ = some (.string x1) ∧ W.cell? ⟨ga, oa + i * 6 + 1, none⟩ = some (.string x2) ∧ W.cell? ⟨ga, oa + i * 6 + 2, none⟩ = some (.int .i64 x3) ∧ W.cell? ⟨ga, oa + i * 6 + 3, none⟩ = some (.int .i64 x4) ∧ W.cell? ⟨ga, oa + i * 6 + 4, none⟩ = some (.int .i64 x5) ∧ W.cell? ⟨ga, oa + i * 6 + 5, none⟩ = some (.int .i64 x6) ∧ W.cell? ⟨gb, ob + i * 6, none⟩ = some (.string x1) ∧ W.cell? ⟨gb, ob + i * 6 + 1, none⟩ = some (.string x2) ∧ W.cell? ⟨gb, ob + i * 6 + 2, none⟩ = some (.int .i64 x3) ∧ W.cell? ⟨gb, ob + i * 6 + 3, none⟩ = some (.int .i64 x4) ∧ W.cell? ⟨gb, ob + i * 6 + 4, none⟩ = some (.int .i64 x5) ∧ W.cell? ⟨gb, ob + i * 6 + 5, none⟩ = some (.int .i64 x6)) := Lib.hid fun W hW => ⟨hW.cell0 f0, hW.cell0 f1, hW.cell0 f2, hW.cell0 f3, hW.cell0 f4, hW.cell0 f5, hW.cell0 q0, hW.cell0 q1, hW.cell0 q2, hW.cell0 q3, hW.cell0 q4, hW.cell0 q5⟩
      have b1 := HS.out wr (Fr.refl No wr)
      have b2 := HS.out wr.drew (Fr.refl No wr).drew
      have CK : Hid (∀ (W : World) (k1 k2 : ByteArray) (k3 k4 k5 k6 : Int), Calls Try.prog 68 #[.agg #[.string k1, .string k2, .int .i64 k3, .int .i64 k4, .int .i64 k5, .int .i64 k6], .agg #[.string k1, .string k2, .int .i64 k3, .int .i64 k4, .int .i64 k5, .int .i64 k6]] W fun e w' => e = .returned (.bool true) ∧ Fr No W w') := Lib.hid fun W k1 k2 k3 k4 k5 k6 => sameKv_calls W ⟨k1, k2, k3, k4, k5, k6⟩
      have C1 := Lib.hid (CK.out wr x1 x2 x3 x4 x5 x6)
      have C1d := Lib.hid (CK.out wr.drew x1 x2 x3 x4 x5 x6)
      have HD := Lib.hid (Fr.refl No wr).drew
      go_upto_region 6 with fail
      go_cut [26] (fun s26 wx => s26 = .bool false ∧ Hid (Fr No wr wx))
      case first =>
        go_region_held3 (fun W => W.cell? ⟨ga, oa + i * 6, none⟩ = some (.string x1) ∧ W.cell? ⟨ga, oa + i * 6 + 1, none⟩ = some (.string x2) ∧ W.cell? ⟨ga, oa + i * 6 + 2, none⟩ = some (.int .i64 x3) ∧ W.cell? ⟨ga, oa + i * 6 + 3, none⟩ = some (.int .i64 x4) ∧ W.cell? ⟨ga, oa + i * 6 + 4, none⟩ = some (.int .i64 x5) ∧ W.cell? ⟨ga, oa + i * 6 + 5, none⟩ = some (.int .i64 x6) ∧ W.cell? ⟨gb, ob + i * 6, none⟩ = some (.string x1) ∧ W.cell? ⟨gb, ob + i * 6 + 1, none⟩ = some (.string x2) ∧ W.cell? ⟨gb, ob + i * 6 + 2, none⟩ = some (.int .i64 x3) ∧ W.cell? ⟨gb, ob + i * 6 + 3, none⟩ = some (.int .i64 x4) ∧ W.cell? ⟨gb, ob + i * 6 + 4, none⟩ = some (.int .i64 x5) ∧ W.cell? ⟨gb, ob + i * 6 + 5, none⟩ = some (.int .i64 x6))
          (first | with_reducible exact b1 | with_reducible exact b2 | with_reducible exact b3)
          (first | (go_at_call 68; refine (sameKv_calls _ ⟨x1, x2, x3, x4, x5, x6⟩).mono ?_; rintro e w3 ⟨rfl, hf3⟩; have b3 := HS.out w3 (by first | exact hf3 | exact (Fr.refl No wr).drew.trans0 hf3)))
        all_goals
          go_wp2
          go_meet
          case rel => exact ⟨rfl, Lib.hid (by first | exact hf3 | exact (Fr.refl No wr).drew.trans0 hf3)⟩
      case rest =>
        obtain ⟨rfl, HX⟩ := hcut
        go_wp2
        go_roundg g
        case rel => exact ⟨i + 1, by go_num, by omega, Lib.hid (HF.out.trans0 HX.out)⟩
        case measure => omega

end Go.Proofs.Ythljnnjpmdgkoaa

namespace Go.Proofs.Ythljnnjpmdgkoaa
open Go Go.Proofs Go.RowKit
set_option maxRecDepth 100000

def rg0 (key : ByteArray) : Rg := ⟨key, ByteArray.empty, 0, 0, false, false, false⟩
def bA : ByteArray := ⟨#[97]⟩
def bB : ByteArray := ⟨#[98]⟩
def b1 : ByteArray := ⟨#[49]⟩
def b2 : ByteArray := ⟨#[50]⟩
def putO (k v : ByteArray) : Opr := ⟨1, rg0 k, v, 0⟩
end Go.Proofs.Ythljnnjpmdgkoaa
