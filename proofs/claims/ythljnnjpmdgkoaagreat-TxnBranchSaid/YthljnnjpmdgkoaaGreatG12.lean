/- Own lemmas and contracts that the claim's proof needs, laid together. The conditions stand in each. -/
import Derived.Test.YthljnnjpmdgkoaaGreatG11
import Derived.Test.YthljnnjpmdgkoaaGreatG09
import Derived.Test.YthljnnjpmdgkoaaGreatG10
namespace Go.Proofs.YthljnnjpmdgkoaaGreat
open Go Go.Proofs Go.RowKit
set_option maxRecDepth 100000
def compK (rev : Int) (K : List Gen) : List Gen := (K.filter fun x => !endB rev x).map (compG rev)
theorem zly (rev : Int) (Z : List (Gen × Value)) : (Z.filter (keptP rev)).map (·.1) = (Z.map (·.1)).filter fun x => !endB rev x := by
 rw [List.filter_map]
 rfl
theorem KeyRep.kept {w w' : World} {g : Nat} {v v' : Value} {Z : List (Gen × Value)} {last : Int} (h : KeyRep w g v Z last) (rev : Int) (hf : Fr (fun b => v.ownBlock = some b) w w') (hs : SlF w' 223 4 genC v' (Z.filter (keptP rev))) (ho : v'.ownBlock = v.ownBlock) :
 KeyRep (w'.setCell ⟨g, 0, none⟩ v') g v' (Z.filter (keptP rev)) last := by
 have hmem : ∀ (i : Nat) (p : Gen × Value), (Z.filter (keptP rev))[i]? = some p → ∃ j : Nat, Z[j]? = some p := fun i p hp =>
  List.mem_iff_getElem?.1 (List.mem_filter.1 (List.mem_of_getElem? hp)).1
 have hfs : Fr (fun b => b = g) w' (w'.setCell ⟨g, 0, none⟩ v') := (Fr.refl _ w').setAt 0 _
 have hpw : (Z.filter (keptP rev)).Pairwise fun p q => ∀ b, p.2.ownBlock = some b → q.2.ownBlock ≠ some b := by
  refine List.Pairwise.sublist List.filter_sublist ?_; rw [List.pairwise_iff_getElem]; intro i j hi hj hij b hb hb'; have := h.apart2 i j _ _ (List.getElem?_eq_getElem hi) (List.getElem?_eq_getElem hj) b hb hb'; omega
 rw [List.pairwise_iff_getElem] at hpw
 exact {
  obj := (h.obj.fr hf h.own).set 0 v'
  gens := hs.fr hfs fun b hb e => h.own (by have e' : b = g := e; rw [← e', ← ho]; exact hb)
  puts := fun i p hp => by
   obtain ⟨j, hj⟩ := hmem i p hp; exact ((h.puts j p hj).fr hf fun b hb e => (h.apart j p hj b hb).2 e).fr hfs fun b hb e => (h.apart j p hj b hb).1 e
  apart := fun i p hp b hb => by
   obtain ⟨j, hj⟩ := hmem i p hp; rw [ho]; exact h.apart j p hj b hb
  apart2 := fun i j p q hi hj b hb hb' => by
   obtain ⟨i1, i2⟩ := List.getElem?_eq_some_iff.1 hi; obtain ⟨j1, j2⟩ := List.getElem?_eq_some_iff.1 hj; rcases Nat.lt_trichotomy i j with e | e | e
   · exact absurd hb' (hpw i j i1 j1 e b (by rw [i2]; exact hb) |> fun h => by rw [j2] at h; exact h)
   · exact e
   · exact absurd hb (hpw j i j1 i1 e b (by rw [j2]; exact hb') |> fun h => by rw [i2] at h; exact h)
  own := by rw [ho]; exact h.own }
set_option maxHeartbeats 8000000 in
theorem zge (w : World) (g : Nat) (K : List Gen) (last rev : Int) (F : Nat → Prop) (h : KeyAt w g K last F) (hK : Fits K) :
 Calls Tryz.prog 102 #[.pointer (some ⟨g, 0, none⟩), .int .i64 rev] w fun e w' => e = .returned (.bool (decide (0 < (compK rev K).length))) ∧ Fr F w w' ∧ ∃ F', KeyAt w' g (compK rev K) last F' ∧ ∀ b, F' b → F b := by
 obtain ⟨gv, Z0, hr, rfl, hF⟩ := h; obtain ⟨a0, cap0, rfl, hc10, hc20, ha0⟩ := hr.gens.shape; have hlZ0 : Z0.length ≤ 1099511627 := by have := hK.1; rwa [List.length_map] at this
 have hsh : ∀ p ∈ Z0, ∃ a n c, p.2 = .slice a n c := fun p hp => by
  obtain ⟨j, hj⟩ := List.mem_iff_getElem?.1 hp; obtain ⟨a, c, h1, _⟩ := (hr.puts j p hj).shape; exact ⟨a, _, c, h1⟩
 have hdel := fun W rb (hb : W.cell? ⟨rb, 0, none⟩ = some (.int .i64 rev)) hv hn => zoc W (.slice a0 Z0.length cap0) Z0 rb rev hb hv hn hlZ0 hsh; have HDEL := H_ hdel
 have hK1 : Fits ((Z0.filter (keptP rev)).map (·.1)) := by
  rw [zly]; exact ⟨Nat.le_trans (List.length_filter_le _ _) hK.1, fun x hx => hK.2 x (List.mem_filter.1 hx).1⟩
 have hsub : ∀ p, p ∈ Z0.filter (keptP rev) → p ∈ Z0 := fun p hp => (List.mem_filter.1 hp).1; have hck : compK rev (Z0.map (·.1)) = ((Z0.filter (keptP rev)).map (·.1)).map (compG rev) := by rw [zly]; rfl
 have hkept := fun w' v' => KeyRep.kept (w := w.alloc (Obj.cells #[.int .i64 rev] 3)) (w' := w') (v' := v') (hr.fr (((Fr.refl No w).alloc (Obj.cells #[.int .i64 rev] 3))) fun _ _ h => h) rev; rw [hck]; have hlZ : (Z0.filter (keptP rev)).length ≤ 1099511627 := Nat.le_trans (List.length_filter_le _ _) hlZ0; have hZ : ∃ Z, Z0.filter (keptP rev) = Z := ⟨_, rfl⟩; obtain ⟨Z, hZ⟩ := hZ; rw [hZ] at hK1 hkept hlZ hsub HDEL ⊢
 have hgw : ∀ b, (Value.slice a0 Z0.length cap0).ownBlock = some b → b < w.heap.size := hr.gens.lt; have c0 := hr.obj.cell 0 rfl; have f0 := hr.obj.free 0; have lg := hr.obj.lt; have HR := H_ hr; have HF := H_ hF; have HK := H_ hK1; have HKEPT := H_ hkept; have HGW := H_ hgw; have HSUB := H_ hsub
 have hc0 : (w.alloc (Obj.cells #[.int .i64 rev] 3)).cell? ⟨w.heap.size, 0, none⟩ = some (.int .i64 rev) := by
  unfold World.cell?; simp only; rw [show (w.alloc (Obj.cells #[.int .i64 rev] 3)).heap[w.heap.size]? = some (.cells #[.int .i64 rev] 3 (0, 0)) from zad _ _ _ rfl]
  rfl
 have HC0 := H_ hc0; clear hc0; clear hdel hr hF hK hK1 hkept hgw hsub hsh hck ha0; go_enter Tryz.func102, Tryz.ntmps102
 go_wp2_with (go_at_call 145; refine (HDEL.out _ w.heap.size HC0.out (HR.out.gens.alloc _) (fun e => by have := HGW.out _ e; omega)).mono ?_; rintro e w1 ⟨v1, rfl, hs1, hf1, ho1⟩
              obtain ⟨a, cap, rfl, hc1, hc2, ha⟩ := hs1.shape; have hbx1 := hf1.heap (zad w (Obj.cells #[.int .i64 rev] 3) _ rfl) (fun e => by have := HGW.out _ e; omega); have hfw1 : Fr F w w1 := (((Fr.refl No w).alloc _).mono fun _ _ h => h.elim).trans hf1 fun b hb e => (HF.out b).2 (.inr (.inl e)); have hown : ¬ (Value.slice a0 Z0.length cap0).ownBlock = some g := HR.out.own; have c01 := hf1.cell (((Fr.refl No w).alloc (Obj.cells #[.int .i64 rev] 3)).cell0 c0) hown; have f01 := hf1.free (((Fr.refl No w).alloc (Obj.cells #[.int .i64 rev] 3)).cell0 c0) (((Fr.refl No w).alloc (Obj.cells #[.int .i64 rev] 3)).free0 c0 f0) hown; have lg1 : g < w1.heap.size := Nat.lt_of_lt_of_le lg hfw1.size; have HA := H_ ha; have HS1 := H_ hs1; have HO1 := H_ ho1; have HFW1 := H_ hfw1; have HF1 := H_ hf1; clear ha hs1 ho1 hfw1 hf1 hown)
 have hr2 : KeyRep (w1.setCell ⟨g, 0, none⟩ (.slice a Z.length cap)) g (.slice a Z.length cap) Z last := HKEPT.out _ _ HF1.out HS1.out HO1.out; have hfs : Fr (fun b => b = g) w1 (w1.setCell ⟨g, 0, none⟩ (.slice a Z.length cap)) := (Fr.refl _ w1).setAt 0 _; have hbx2 := hfs.heap hbx1 (fun e => by have e' : w.heap.size = g := e; omega); have c02 : (w1.setCell ⟨g, 0, none⟩ (.slice a Z.length cap)).cell? ⟨g, 0, none⟩ = some (.slice a Z.length cap) := hr2.obj.cell 0 rfl; have hFg : F g := (HF.out g).2 (.inl rfl); have hfw2 : Fr F w (w1.setCell ⟨g, 0, none⟩ (.slice a Z.length cap)) := HFW1.out.trans hfs fun b _ e => by have e' : b = g := e; rw [e']; exact hFg
 have HR2 := H_ hr2; have HBX := H_ hbx2; have HFW := H_ hfw2; have hsz2 := hfs.size; generalize w1.setCell ⟨g, 0, none⟩ (.slice a Z.length cap) = W2 at *; have lg2 : g < W2.heap.size := by omega
 clear hr2 hbx1 hbx2 hfw2 hfs f0 f01 c0 c01
 go_loopg [24] Z.length (fun gg s24 wr => ∃ (i : Nat) (Z' : List (Gen × Value)), s24 = .int .i64 i ∧ i + gg = Z.length ∧ Z'.length = Z.length ∧ Hid (Z'.map (·.1) = ((Z.map (·.1)).take i).map (compG rev) ++ (Z.map (·.1)).drop i) ∧ Hid (Z'.map (·.2.ownBlock) = Z.map (·.2.ownBlock)) ∧
  Hid (KeyRep wr g (.slice a Z.length cap) Z' last) ∧ Hid (Fr F w wr) ∧ Hid (wr.heap[w.heap.size]? = some (.cells #[.int .i64 rev] 3 (0, 0))))
 case atStart => exact ⟨0, Z, rfl, by simp, rfl, H_ (by simp), H_ rfl, HR2, HFW, HBX⟩
 case round =>
  obtain ⟨i, Z', rfl, hi, hlz, HM, HO, HRR, HFF, HB⟩ := hrel
  cases gk with
  | zero =>
    have hil : ¬ (i : Int) < (Z.length : Int) := (by omega); have d0 := HRR.out.obj.cell 0 rfl; have ld := HRR.out.obj.lt; have hdd : decide (0 < ((Z.map (·.1)).map (compG rev)).length) = decide ((0 : Int) < (Z.length : Int)) := (by rw [List.length_map, List.length_map, decide_eq_decide]; omega); have HDD := H_ hdd; clear hdd; go_wp2; go_ret; refine ⟨by first | rfl | (rw [HDD.out]; rfl) | simp, HFF.out, keyF g (.slice a Z.length cap) Z', ⟨_, Z', HRR.out, ?_, fun b => Iff.rfl⟩, fun b hb => ?_⟩
    · rw [HM.out, List.take_of_length_le (by simp; omega), List.drop_eq_nil_of_le (by simp; omega), List.append_nil]
      try simp
    · refine (HF.out b).2 ?_
      rcases (zqo HO.out b).1 hb with h | h | ⟨j, p, hp, h⟩
      · exact .inl h
      · exact .inr (.inl (by rw [← HO1.out]; exact h))
      · obtain ⟨i', hi'⟩ := List.mem_iff_getElem?.1 (HSUB.out p (List.mem_of_getElem? hp))
        exact .inr (.inr ⟨i', p, hi', h⟩)
  | succ gg =>
    obtain ⟨gb, go, rfl⟩ := HA.out (by omega); obtain ⟨⟨x, pv⟩, hx⟩ : ∃ p, Z'[i]? = some p := ⟨_, List.getElem?_eq_getElem (by omega)⟩; have hil : (i : Int) < (Z.length : Int) := (by omega); have hrr : KeyRep wr g (.slice (some ⟨gb, go, none⟩) Z'.length cap) Z' last := (by rw [hlz]; exact HRR.out)
    have hxK : (Z.map (·.1))[i]? = some x := by
     have := congrArg (fun l => l[i]?) HM.out; simp only [List.getElem?_map, hx, Option.map_some] at this; rw [List.getElem?_append_right (by simp; omega)] at this; simp only [List.length_map, List.length_take, List.getElem?_drop] at this; rw [Nat.min_eq_left (by omega), show i + (i - i) = i by omega] at this; exact this.symm
    have hfx := HK.out.2 x (List.mem_of_getElem? hxK); have hps := hrr.puts i _ hx; have y0 := hrr.gens.cell0 zak i hx rfl; have y1 := hrr.gens.cell zak i 1 hx rfl; have y2 := hrr.gens.cell zak i 2 hx rfl; have y3 := hrr.gens.cell zak i 3 hx rfl; have d0 := HRR.out.obj.cell 0 rfl; have ld := HRR.out.obj.lt; have lgb := hrr.gens.lt gb rfl; have hfz : ∀ j, wr.frozen? ⟨gb, j, none⟩ = false := fun j => hrr.gens.free j; have rb0 : wr.cell? ⟨w.heap.size, 0, none⟩ = some (.int .i64 rev) := (by simp [World.cell?, HB.out]); have lrb := zaa HB.out; have hup := fun W (h : Fr No wr W) => zjf W x pv rev (hps.fr0 h) (by have := hfx.1; omega); have hule := zdr x.puts rev; have hcg : compG rev x = if 1 < upTo x.puts rev then { x with cut := x.cut + ((upTo x.puts rev : Int) - 1), puts := x.puts.drop (upTo x.puts rev - 1) } else x := rfl; have HUP := H_ hup; have HX := H_ hx; have HXK := H_ hxK
    have HRI := H_ hrr; have HPS := H_ hps; have HCG := H_ hcg; clear hup hx hxK hrr hps hcg; generalize hn : upTo x.puts rev = n at *; obtain ⟨x1, x2, x3, x4⟩ := x; dsimp only at *; by_cases hn1 : 1 < n
    · have hn1' : (1 : Int) < (n : Int) := by omega
      rw [if_pos hn1] at HCG; obtain ⟨pa, pc, rfl, hp1, hp2, hp3⟩ := HPS.out.shape
      (try dsimp only at hp1 hp3)
      obtain ⟨pb, po, rfl⟩ := hp3 (by omega); go_upto_region 8 with fail
      go_cut [7] (fun s7 wx => s7 = .int .i64 n ∧ Hid (Fr No wr wx))
      case first =>
       go_region_held3 (fun W => W.cell? ⟨gb, go + i * 4, none⟩ = some (.int .i64 x1) ∧ W.cell? ⟨gb, go + i * 4 + 1, none⟩ = some (.int .i64 x2) ∧ W.cell? ⟨gb, go + i * 4 + 2, none⟩ = some (.slice (some ⟨pb, po, none⟩) x3.length pc) ∧
        W.cell? ⟨gb, go + i * 4 + 3, none⟩ = some (.int .i64 x4) ∧ W.cell? ⟨w.heap.size, 0, none⟩ = some (.int .i64 rev))
        (first | exact ⟨y0, y1, y2, y3, rb0⟩ | exact ⟨hf3.cell0 y0, hf3.cell0 y1, hf3.cell0 y2, hf3.cell0 y3, hf3.cell0 rb0⟩)
        (first | (go_at_call 147; refine (HUP.out _ (by (repeat (first | with_reducible exact Fr.refl _ _ | with_reducible refine Fr.drew ?_)); done)).mono ?_; rintro e w3 ⟨rfl, hf3⟩))
       all_goals
        go_wp2; go_meet
        case rel => exact ⟨rfl, H_ (Fr.trans0 (by (repeat (first | with_reducible exact Fr.refl _ _ | with_reducible refine Fr.drew ?_)); done) hf3)⟩
      case rest =>
       obtain ⟨rfl, HX3⟩ := hcut; have z1 := HX3.out.cell0 y1; have z2 := HX3.out.cell0 y2; have fz := fun j => (HRI.out.fr HX3.out fun _ _ h => h).gens.free j; have lgc : gb < wc.heap.size := Nat.lt_of_lt_of_le lgb HX3.out.size; clear y0 y1 y2 y3 rb0 hfz; obtain ⟨m, rfl⟩ : ∃ m, n = m + 1 := ⟨n - 1, by omega⟩; have hm0 : 0 < m := (by omega); have hx2a := hfx.2.1; have hx2b := hfx.2.2; have hx3 := hfx.1; have hml : (m : Int) ≤ (x3.length : Int) := (by omega); have hml2 : m ≤ x3.length := (by omega); have hlc : (x3.length : Int) ≤ (pc : Int) := (by omega); have hne : ¬ x3.length = m := (by omega); have hlt3 : m < x3.length := (by omega); have hset := KeyRep.setGen (HRI.out.fr HX3.out fun _ _ h => h) i HX.out ⟨x1, x2 + m, x3.drop m, x4⟩ (.slice (some ⟨pb, po + m, none⟩) (x3.length - m) (x3.length - m)) rfl rfl rfl
        (by have := SlF.cut3 zdy (HPS.out.fr0 HX3.out) m hlt3; simpa using this)
       have hcg2 : compG rev ⟨x1, x2, x3, x4⟩ = ⟨x1, x2 + m, x3.drop m, x4⟩ := by
        rw [HCG.out, show ((m + 1 : Nat) : Int) - 1 = (m : Int) by omega]
        rfl
       have HSET := H_ hset; have HCG2 := H_ hcg2; have hgbw : gb < w.heap.size := HGW.out gb (by rw [← HO1.out]; rfl); clear hn hfx hule hm0 hset hcg2; go_upto_region 11 with fail
       go_region
       go_wp2; go_roundg gg
       case rel =>
        obtain ⟨hk, hf⟩ := HSET.out; rw [hlz] at hk; refine ⟨i + 1, _, by go_num, by omega, by rw [List.length_set]; exact hlz, H_ ?_, H_ ?_, H_ (hk.fr (Fr.refl No _).drew fun _ _ h => h), H_ ?_, H_ ?_⟩
        · rw [List.map_set, HM.out]
          exact zst HXK.out HCG2.out
        · rw [List.map_set, ← HO.out]
          refine zub ?_; rw [List.getElem?_map, HX.out]
          rfl
        · refine ((HFF.out.trans0 HX3.out).trans hf fun b _ e => ?_).drew
          have e' : b = gb := e; rw [e']; exact (HF.out gb).2 (.inr (.inl (by rw [← HO1.out]; rfl)))
        · exact (hf.drew).heap (HX3.out.heap HB.out id) (fun e => by have e' : w.heap.size = gb := e; omega)
       case measure => omega
    · have hn1' : ¬ (1 : Int) < (n : Int) := by omega
      rw [if_neg hn1] at HCG; obtain ⟨pa, pc, rfl, hp1, hp2, hp3⟩ := HPS.out.shape
      (try dsimp only at hp1 hp3)
      go_upto_region 8 with fail
      go_cut [7] (fun s7 wx => s7 = .int .i64 n ∧ Hid (Fr No wr wx))
      case first =>
       go_region_held3 (fun W => W.cell? ⟨gb, go + i * 4, none⟩ = some (.int .i64 x1) ∧ W.cell? ⟨gb, go + i * 4 + 1, none⟩ = some (.int .i64 x2) ∧ W.cell? ⟨gb, go + i * 4 + 2, none⟩ = some (.slice pa x3.length pc) ∧
        W.cell? ⟨gb, go + i * 4 + 3, none⟩ = some (.int .i64 x4) ∧ W.cell? ⟨w.heap.size, 0, none⟩ = some (.int .i64 rev))
        (first | exact ⟨y0, y1, y2, y3, rb0⟩ | exact ⟨hf3.cell0 y0, hf3.cell0 y1, hf3.cell0 y2, hf3.cell0 y3, hf3.cell0 rb0⟩)
        (first | (go_at_call 147; refine (HUP.out _ (by (repeat (first | with_reducible exact Fr.refl _ _ | with_reducible refine Fr.drew ?_)); done)).mono ?_; rintro e w3 ⟨rfl, hf3⟩))
       all_goals
        go_wp2; go_meet
        case rel => exact ⟨rfl, H_ (Fr.trans0 (by (repeat (first | with_reducible exact Fr.refl _ _ | with_reducible refine Fr.drew ?_)); done) hf3)⟩
      case rest =>
       obtain ⟨rfl, HX3⟩ := hcut; go_wp2; go_roundg gg
       case rel => exact ⟨i + 1, Z', by go_num, by omega, hlz, H_ (by rw [HM.out]; exact zum HXK.out HCG.out), HO, H_ (HRR.out.fr HX3.out fun _ _ h => h), H_ (HFF.out.trans0 HX3.out), H_ (HX3.out.heap HB.out id)⟩
       case measure => omega
structure HOrd (K : List Gen) : Prop where
 ends : K.Pairwise fun a b => 0 < a.end_ ∧ (b.end_ = 0 ∨ a.end_ ≤ b.end_)
 puts : ∀ x ∈ K, x.puts.Pairwise (· < ·)
theorem HOrd.put {K : List Gen} (h : HOrd K) {R : Int} (hM : ∀ x ∈ K, ∀ p ∈ x.puts, p < R) (he : ∀ x ∈ K, 0 ≤ x.end_) : HOrd (putK K R) := by
 unfold putK
 split
 · rename_i ho
   obtain ⟨L, x, rfl, hx⟩ := zck ho; rw [zbu]; obtain ⟨a, b, c⟩ := List.pairwise_append.1 h.ends; refine ⟨List.pairwise_append.2 ⟨a, by simp, fun y hy z hz => ?_⟩, fun y hy => ?_⟩
   · rw [List.mem_singleton.1 hz]
     exact c y hy x (by simp)
   · rcases List.mem_append.1 hy with e | e
     · exact h.puts y (List.mem_append_left _ e)
     · rw [List.mem_singleton.1 e]
       refine List.pairwise_append.2 ⟨h.puts x (by simp), by simp, fun p hp q hq => ?_⟩; rw [List.mem_singleton.1 hq]; exact hM x (by simp) p hp
 · rename_i ho
   have hall : ∀ y ∈ K, 0 < y.end_ := by
    rcases List.eq_nil_or_concat K with rfl | ⟨L, x, rfl⟩
    · simp
    · simp only [List.concat_eq_append] at *
      obtain ⟨a, b, c⟩ := List.pairwise_append.1 h.ends; intro y hy; rcases List.mem_append.1 hy with e | e
      · exact (c y e x (by simp)).1
      · rw [List.mem_singleton.1 e]
        have h0 : x.end_ ≠ 0 := fun h0 => ho (by unfold isOpen; simp [h0]); have := he x (by simp); omega
   refine ⟨List.pairwise_append.2 ⟨h.ends, by simp, fun y hy z hz => ?_⟩, fun y hy => ?_⟩
   · rw [List.mem_singleton.1 hz]
     exact ⟨hall y hy, .inl rfl⟩
   · rcases List.mem_append.1 hy with e | e
     · exact h.puts y e
     · rw [List.mem_singleton.1 e]; simp
theorem HOrd.tomb {K : List Gen} (h : HOrd K) (ho : isOpen K = true) {R : Int} (hM : ∀ x ∈ K, x.end_ < R) : HOrd (tombK K R) := by
 obtain ⟨L, x, rfl, hx⟩ := zck ho; unfold tombK; rw [zbu]; obtain ⟨a, b, c⟩ := List.pairwise_append.1 h.ends; refine ⟨List.pairwise_append.2 ⟨a, by simp, fun y hy z hz => ?_⟩, fun y hy => ?_⟩
 · rw [List.mem_singleton.1 hz]
   have := hM y (List.mem_append_left _ hy); exact ⟨(c y hy x (by simp)).1, .inr (by dsimp only; omega)⟩
 · rcases List.mem_append.1 hy with e | e
   · exact h.puts y (List.mem_append_left _ e)
   · rw [List.mem_singleton.1 e]
     exact h.puts x (by simp)
theorem zrr {l : List Int} {R : Int} {j : Nat} (hj : j < upTo l R) (hl : j < l.length) : l[j] ≤ R := by
 unfold upTo at hj; have := List.not_of_lt_findIdx hj; simpa using this
theorem zrs {l : List Int} {r : Int} {k : Nat} (hk : k ≤ l.length) (h : ∀ j (hj : j < l.length), j < k → l[j] ≤ r) : k ≤ upTo l r := by
 unfold upTo; rcases Nat.lt_or_ge (l.findIdx fun p => decide (r < p)) k with hc | hc
 · have hl : (l.findIdx fun p => decide (r < p)) < l.length := by omega
   have h1 := List.findIdx_getElem (w := hl); have h2 := h _ hl hc; simp only [decide_eq_true_eq] at h1; omega
 · exact hc
theorem zla (l : List Int) {R r : Int} (h : R ≤ r) : upTo l R ≤ upTo l r :=
 zrs (zdr l R) fun _j hj hk => Int.le_trans (zrr hk hj) h
theorem zrt {l : List Int} {R r : Int} {k : Nat} (hk : k ≤ upTo l R) (h : R ≤ r) : upTo (l.drop k) r = upTo l r - k := by
 have hkl : k ≤ l.length := Nat.le_trans hk (zdr l R)
 have ht : (l.take k).findIdx (fun p => decide (r < p)) = k := by
  have : (l.take k).findIdx (fun p => decide (r < p)) = (l.take k).length := by
   refine List.findIdx_eq_length_of_false fun p hp => ?_; obtain ⟨j, hj⟩ := List.mem_iff_getElem?.1 hp; have hjl := (List.getElem?_eq_some_iff.1 hj).1; rw [List.length_take] at hjl; rw [List.getElem?_take_of_lt (by omega)] at hj; have h1 := zrr (l := l) (R := R) (j := j) (by omega) (by omega); rw [(List.getElem?_eq_some_iff.1 hj).2] at h1; simp; omega
  rw [this]; simp; omega
 have h2 : upTo l r = k + upTo (l.drop k) r := by
  conv => lhs; rw [← List.take_append_drop k l]
  unfold upTo; rw [List.findIdx_append, ht]; have : (l.take k).length = k := (by simp; omega); rw [this, if_neg (by omega)]; omega
 omega
theorem ztm {K : List Gen} {r : Int} (h : ∀ y ∈ K, 0 < y.end_ ∧ y.end_ ≤ r) : atK K r = ((0, 0, 0), false) := by
 unfold atK
 split
 · rfl
 · rename_i x hx
   have hm := List.mem_reverse.1 (List.mem_of_find?_eq_some hx); have := h x hm; rw [if_pos ⟨this.1, this.2⟩]
theorem zfa (R : Int) (x : Gen) : (compG R x).end_ = x.end_ ∧ (compG R x).create = x.create := by
 unfold compG
 split <;> exact ⟨rfl, rfl⟩
theorem zqy (R : Int) (K : List Gen) (x : Gen) : compK R (K ++ [x]) = compK R K ++ if endB R x then [] else [compG R x] := by
 unfold compK; rw [List.filter_append, List.map_append]
 congr 1
 cases h : endB R x <;> simp [h]
theorem zko {K : List Gen} (h : HOrd K) {R r : Int} (hr : R ≤ r) : atK (compK R K) r = atK K r := by
 have key : ∀ n (K : List Gen), K.length = n → HOrd K → atK (compK R K) r = atK K r := by
  intro n
  induction n with
  | zero =>
    intro K hn _; rw [List.eq_nil_of_length_eq_zero hn]
    rfl
  | succ n ih =>
    intro K hn h; rcases List.eq_nil_or_concat K with rfl | ⟨L, x, rfl⟩
    · simp at hn
    · simp only [List.concat_eq_append] at *
      obtain ⟨a, b, c⟩ := List.pairwise_append.1 h.ends; have hL : HOrd L := ⟨a, fun y hy => h.puts y (List.mem_append_left _ hy)⟩; have ihL := ih L (by simp at hn; omega) hL; rw [zqy, zby]
      cases he : endB R x with
      | true =>
        simp only [if_true, List.append_nil]; rw [ihL]; unfold endB at he; simp only [Bool.and_eq_true, decide_eq_true_eq] at he
        have hnone : atK L r = ((0, 0, 0), false) := ztm fun y hy => by
         have := c y hy x (by simp); omega
        rw [hnone, if_pos (show 0 < x.end_ ∧ x.end_ ≤ r by omega)]
        split <;> rfl
      | false =>
        simp only [Bool.false_eq_true, if_false]; rw [zby, (zfa R x).1, (zfa R x).2, ihL]; unfold compG; by_cases hn1 : 1 < upTo x.puts R
        · rw [if_pos hn1]
          dsimp only; have hle := zla x.puts hr; have hul := zdr x.puts r; have hd := zrt (l := x.puts) (R := R) (r := r) (k := upTo x.puts R - 1) (by omega) hr; rw [hd, if_pos (show upTo x.puts r - (upTo x.puts R - 1) ≠ 0 by omega), if_pos (show upTo x.puts r ≠ 0 by omega), List.getElem?_drop]; have e1 : upTo x.puts R - 1 + (upTo x.puts r - (upTo x.puts R - 1) - 1) = upTo x.puts r - 1 := (by omega); have e2 : x.cut + ((upTo x.puts R : Int) - 1) + ((upTo x.puts r - (upTo x.puts R - 1) : Nat) : Int) = x.cut + (upTo x.puts r : Int) := (by omega); rw [e1, e2]
        · rw [if_neg hn1]
 exact key K.length K rfl h
theorem zvm {K : List Gen} (h : HOrd K) {R r : Int} (hr : R ≤ r) (hm : (atK K r).1.2.1 ≤ R) : (atK K r).1.2.1 = (atK K R).1.2.1 ∨ (atK K r).1.2.1 = 0 := by
 have key : ∀ n (K : List Gen), K.length = n → HOrd K → (atK K r).1.2.1 ≤ R → (atK K r).1.2.1 = (atK K R).1.2.1 ∨ (atK K r).1.2.1 = 0 := by
  intro n
  induction n with
  | zero =>
    intro K hn _ _; rw [List.eq_nil_of_length_eq_zero hn]; exact .inr rfl
  | succ n ih =>
    intro K hn h hm; rcases List.eq_nil_or_concat K with rfl | ⟨L, x, rfl⟩
    · simp at hn
    · simp only [List.concat_eq_append] at *
      obtain ⟨a, b, c⟩ := List.pairwise_append.1 h.ends; have hL : HOrd L := ⟨a, fun y hy => h.puts y (List.mem_append_left _ hy)⟩; rw [zby] at hm ⊢
      rw [zby]; have hmono := zla x.puts hr; by_cases hu : upTo x.puts r ≠ 0
      · rw [if_pos hu] at hm ⊢
        by_cases he : 0 < x.end_ ∧ x.end_ ≤ r
        · rw [if_pos he]; exact .inr rfl
        · rw [if_neg he] at hm ⊢
          dsimp only at hm ⊢
          have hul := zdr x.puts r; have hlt : upTo x.puts r - 1 < x.puts.length := (by omega); rw [List.getElem?_eq_getElem hlt, Option.getD_some] at hm
          have hge : upTo x.puts r ≤ upTo x.puts R := zrs hul fun j hj hk => by
           rcases Nat.lt_or_ge j (upTo x.puts r - 1) with e | e
           · have := List.pairwise_iff_getElem.1 (h.puts x (by simp)) j (upTo x.puts r - 1) hj hlt e
             omega
           · have : j = upTo x.puts r - 1 := by omega
             subst this; exact hm
          have he2 : upTo x.puts R = upTo x.puts r := (by omega); rw [he2, if_pos hu, if_neg (by omega)]; exact .inl rfl
      · rw [if_neg hu] at hm ⊢
        rw [if_neg (by omega)]; exact ih L (by simp at hn; omega) hL hm
 exact key K.length K rfl h hm
def compH (R : Int) (H : Hist) : Hist := { gens := compK R H.gens, last := H.last, kvs := fun r => if r ≤ R ∧ r ≠ (atK (compK R H.gens) R).1.2.1 then none else H.kvs r }
theorem ztd {M : Int} {H : Hist} (hI : HInv M H) (h : HOrd H.gens) {R r : Int} (hr : R ≤ r) : hadH (compH R H) r = hadH H r := by
 unfold hadH compH; dsimp only; rw [zko h hr, zko h (Int.le_refl R)]; by_cases hm : (atK H.gens r).1.2.1 ≤ R
 · rcases zvm h hr hm with e | e
   · rw [if_neg fun c => c.2 e]
   · rw [e]
     split
     · rw [hI.zero]
     · rfl
 · rw [if_neg fun c => hm c.1]
theorem ztc {H : Hist} (h : HOrd H.gens) {R r : Int} (hr : R ≤ r) (hM : H.kvs 0 = none) (hn : compK R H.gens = []) : hadH H r = (kv0, false) := by
 unfold hadH; rw [← zko h hr, hn]; dsimp only [zwl]; rw [hM]
 rfl
theorem zdo {R : Int} {K : List Gen} {y : Gen} (hy : y ∈ compK R K) : ∃ x ∈ K, y = compG R x := by
 unfold compK at hy; obtain ⟨x, hx, rfl⟩ := List.mem_map.1 hy; exact ⟨x, (List.mem_filter.1 hx).1, rfl⟩
theorem zdp (R : Int) (x : Gen) : ∃ k, (compG R x).puts = x.puts.drop k ∧ (compG R x).cut = x.cut + (k : Int) ∧ k ≤ x.puts.length ∧ (x.puts ≠ [] → k < x.puts.length) := by
 have hl := zdr x.puts R; unfold compG
 split
 · exact ⟨upTo x.puts R - 1, rfl, by dsimp only; omega, by omega, fun _ => by omega⟩
 · exact ⟨0, rfl, by simp, by omega, fun h => List.length_pos_iff.2 h⟩
theorem HInv.comp {M : Int} {H : Hist} (h : HInv M H) (R : Int) : HInv M (compH R H) := by
 refine ⟨fun y hy p hp => ?_, fun y hy => ?_, fun y hy => ?_, ?_⟩
 · obtain ⟨x, hx, rfl⟩ := zdo hy
   obtain ⟨k, hk, _⟩ := zdp R x; rw [hk] at hp; exact h.puts x hx p (List.mem_of_mem_drop hp)
 · obtain ⟨x, hx, rfl⟩ := zdo hy
   rw [(zfa R x).1]; exact h.ends x hx
 · obtain ⟨x, hx, rfl⟩ := zdo hy
   obtain ⟨k, hk, _, _, hk2⟩ := zdp R x; have := hk2 (h.full x hx); rw [hk]; exact fun e => by have := congrArg List.length e; simp at this; omega
 · show (if _ then none else H.kvs 0) = none
   split
   · rfl
   · exact h.zero
theorem HOrd.comp {K : List Gen} (h : HOrd K) (R : Int) : HOrd (compK R K) := by
 refine ⟨?_, fun y hy => ?_⟩
 · unfold compK
   rw [List.pairwise_map]; refine List.Pairwise.imp (fun {a b} hab => ?_) (List.Pairwise.sublist List.filter_sublist h.ends); rw [(zfa R a).1, (zfa R b).1]; exact hab
 · obtain ⟨x, hx, rfl⟩ := zdo hy
   obtain ⟨k, hk, _⟩ := zdp R x; rw [hk]; exact List.Pairwise.sublist (List.drop_sublist _ _) (h.puts x hx)
structure HMore (n : Nat) (H : Hist) : Prop where
 ord : HOrd H.gens
 fin : ∃ l : List Int, l.length ≤ n ∧ ∀ r, H.kvs r ≠ none → r ∈ l
 cut : ∀ x ∈ H.gens, 0 ≤ x.cut ∧ x.cut + x.puts.length ≤ n
theorem HMore.mono {n m : Nat} {H : Hist} (h : HMore n H) (hm : n ≤ m) : HMore m H :=
 ⟨h.ord, by obtain ⟨l, a, b⟩ := h.fin; exact ⟨l, by omega, b⟩, fun x hx => by have := h.cut x hx; omega⟩
theorem HMore.new (n : Nat) : HMore n newH := ⟨⟨List.Pairwise.nil, fun x hx => by simp [newH] at hx⟩, ⟨[], by simp, fun r hr => absurd rfl hr⟩, fun x hx => by simp [newH] at hx⟩
theorem HMore.put {n : Nat} {M : Int} {H : Hist} (h : HMore n H) (hI : HInv M H) (x : Kv) (hM : M < x.mod) : HMore (n + 1) (putH H x) := by
 refine ⟨h.ord.put (fun y hy p hp => by have := (hI.puts y hy p hp).2; omega) fun y hy => (hI.ends y hy).1, ?_, fun y hy => ?_⟩
 · obtain ⟨l, a, b⟩ := h.fin
   refine ⟨x.mod :: l, by simp; omega, fun r hr => ?_⟩; by_cases e : r = x.mod
   · rw [e]; simp
   · unfold putH at hr
     dsimp only at hr; rw [if_neg e] at hr; exact List.mem_cons_of_mem _ (b r hr)
 · unfold putH putK at hy
   dsimp only at hy
   split at hy
   · obtain ⟨z, hz, e | e⟩ := zdx hy
     · rw [e]; have := h.cut z hz; omega
     · rw [e]
       have := h.cut z hz; dsimp only; simp only [List.length_append, List.length_singleton]; omega
   · rcases List.mem_append.1 hy with e | e
     · have := h.cut y e; omega
     · rw [List.mem_singleton.1 e]
       simp; omega
theorem HMore.tomb {n : Nat} {M : Int} {H : Hist} (h : HMore n H) (hI : HInv M H) (ho : isOpen H.gens = true) {R : Int} (hM : M < R) : HMore n (tombH H R) := by
 refine ⟨h.ord.tomb ho fun y hy => by have := (hI.ends y hy).2; omega, h.fin, fun y hy => ?_⟩; unfold tombH tombK at hy; dsimp only at hy; obtain ⟨z, hz, e | e⟩ := zdx hy
 · rw [e]; exact h.cut z hz
 · rw [e]; exact h.cut z hz
theorem HMore.comp {n : Nat} {H : Hist} (h : HMore n H) (R : Int) : HMore n (compH R H) := by
 refine ⟨h.ord.comp R, ?_, fun y hy => ?_⟩
 · obtain ⟨l, a, b⟩ := h.fin
   refine ⟨l, a, fun r hr => b r ?_⟩; unfold compH at hr; dsimp only at hr
   split at hr
   · exact absurd rfl hr
   · exact hr
 · obtain ⟨x, hx, rfl⟩ := zdo hy
   obtain ⟨k, hk, hc, hk1, _⟩ := zdp R x; have := h.cut x hx; rw [hk, hc, List.length_drop]; omega
theorem HistOk.comp {n : Nat} {H : Hist} (h : HistOk n H) (hm : HMore n H) (hn : n ≤ 1099511627) (R : Int) : HistOk n (compH R H) := by
 refine ⟨?_, fun y hy => ?_⟩
 · show (compK R H.gens).length ≤ n
   unfold compK; rw [List.length_map]; exact Nat.le_trans (List.length_filter_le _ _) h.len
 · obtain ⟨x, hx, rfl⟩ := zdo hy
   obtain ⟨k, hk, hc, hk1, _⟩ := zdp R x; have h1 := h.puts x hx; have h2 := hm.cut x hx; rw [hk, hc, List.length_drop]; unfold top; exact ⟨by omega, by omega, by omega, fun p hp => h1.2.2.2 p (List.mem_of_mem_drop hp)⟩
def SMore (n : Nat) (S : St) : Prop := ∀ i H, S.past i = some H → HMore n H
theorem SMore.mono {n m : Nat} {S : St} (h : SMore n S) (hm : n ≤ m) : SMore m S := fun i H hi => (h i H hi).mono hm
theorem SMore.doS {n : Nat} {M : Int} {S : St} (h : SMore n S) (hI : SInv M S) (hM0 : 0 ≤ M) (x : Ev) (h1 : 1 ≤ x.kv.mod) (hlast : (getT S.T x.kv.key).2 = true → ∀ H, S.past (getT S.T x.kv.key).1 = some H → H.last < x.kv.mod)
 (hdel : x.kind ≠ 1 → (getT S.T x.kv.key).2 = true ∧ ∀ H, S.past (getT S.T x.kv.key).1 = some H → isOpen H.gens = true) : SMore (n + 1) (doS S x) := by
 intro i H' hi; change (doneS S x).past i = some H' at hi; unfold doneS at hi; by_cases hk : x.kind = 1
 · rw [if_pos hk] at hi
   unfold putS at hi; dsimp only at hi; obtain ⟨a, b, c, d⟩ := hI.made hM0 x.kv.key
   have hmade : ∀ j G, (madeS S x.kv.key).past j = some G → (HMore n G ∧ HInv G.last G) := fun j G hj => by
    refine ⟨?_, (a.hist j G hj).1.1⟩; unfold madeS at hj
    split at hj
    · exact h j G hj
    · dsimp only at hj
      split at hj
      · rw [← Option.some.inj hj]; exact HMore.new n
      · exact h j G hj
   split at hi
   · rw [← Option.some.inj hi]
     obtain ⟨G, hG⟩ := a.has _ b; rw [c] at hG
     have hl : G.last < x.kv.mod := by
      unfold madeS idS at hG
      cases hg : (getT S.T x.kv.key).2 with
      | true => rw [hg, if_pos rfl, if_pos rfl] at hG; exact hlast hg G hG
      | false =>
        simp only [hg, Bool.false_eq_true, if_false, if_true] at hG; rw [← Option.some.inj hG]
        show (0 : Int) < x.kv.mod
        omega
     rw [hG, Option.getD_some]; exact (hmade _ _ hG).1.put (hmade _ _ hG).2 x.kv hl
   · exact (hmade i H' hi).1.mono (by omega)
 · rw [if_neg hk] at hi
   obtain ⟨e1, e2⟩ := hdel hk; unfold tombS at hi; rw [if_pos e1] at hi; dsimp only at hi
   split at hi
   · obtain ⟨G, hG⟩ := hI.has _ e1
     rw [hG, Option.map_some] at hi; rw [← Option.some.inj hi]; exact ((h _ G hG).tomb (hI.hist _ _ hG).1.1 (e2 G hG) (hlast e1 G hG)).mono (by omega)
   · exact (h i H' hi).mono (by omega)
def Doc.adds (D : Doc) (E : List Ev) : Doc := E.foldl Doc.add D
theorem Doc.adds_snoc (D : Doc) (E : List Ev) (x : Ev) : D.adds (E ++ [x]) = (D.adds E).add x := by
 unfold Doc.adds; rw [List.foldl_append]
 rfl
theorem Doc.adds_parts (D : Doc) (E : List Ev) : (D.adds E).mark = D.mark ∧ (D.adds E).kvs = D.kvs ∧ (D.adds E).events = D.events ++ E := by
 induction E generalizing D with
 | nil => exact ⟨rfl, rfl, by simp [Doc.adds]⟩
 | cons e E ih =>
   obtain ⟨a, b, c⟩ := ih (D.add e); refine ⟨a, b, ?_⟩
   show ((D.add e).adds E).events = _
   rw [c]
   show (D.events ++ [e]) ++ E = _
   simp
theorem Doc.adds_rev (D : Doc) (E : List Ev) (R : Int) (h : ∀ e ∈ E, e.kv.mod = R) : (D.adds E).rev = if E = [] then D.rev else R := by
 rcases List.eq_nil_or_concat E with rfl | ⟨E', x, rfl⟩
 · rfl
 · simp only [List.concat_eq_append] at *
   rw [Doc.adds_snoc, if_neg (by simp)]; exact h x (by simp)
structure RunOk (c n : Nat) (D : Doc) (P : List Opr) (S : St) (E : List Ev) : Prop where
 cpl : Cpl S (D.adds E)
 doc : DocOk n (D.adds E)
 ok : StOk n S
 size : S.T.length ≤ c
 srt : Sorted S.T
 more : SMore n S
 srev : S.rev = D.rev
 mods : ∀ e ∈ E, e.kv.mod = D.rev + 1
 old : ∀ e ∈ D.events, e.kv.mod ≤ D.rev
 last : ∀ k, (getT S.T k).2 = true → ∀ H, S.past (getT S.T k).1 = some H → H.last ≤ D.rev ∨ ∃ e ∈ E, e.kv.key = k
 by1 : ∀ e ∈ E, (e.kind = 1 ∧ ∃ o ∈ P, o.kind = 1 ∧ o.rg.key = e.kv.key) ∨ (e.kind = 2 ∧ (∃ o ∈ P, o.kind = 2 ∧ inB e.kv.key o.rg.key o.rg.end_ = true) ∧ hasL ((D.adds E).at (D.rev + 1)) e.kv.key = none)
theorem RunOk.mono {c n c' n' : Nat} {D : Doc} {P P' : List Opr} {S : St} {E : List Ev} (h : RunOk c n D P S E) (hc : c ≤ c') (hn : n ≤ n') (hP : ∀ o ∈ P, o ∈ P') : RunOk c' n' D P' S E :=
 { h with doc := h.doc.mono hn, ok := h.ok.mono hn, size := Nat.le_trans h.size hc, more := h.more.mono hn, by1 := fun e he => (h.by1 e he).imp (fun ⟨a, o, b, c⟩ => ⟨a, o, hP o b, c⟩) fun ⟨a, ⟨o, b, c⟩, d⟩ => ⟨a, ⟨o, hP o b, c⟩, d⟩ }
theorem RunOk.rev {c n : Nat} {D : Doc} {P : List Opr} {S : St} {E : List Ev} (h : RunOk c n D P S E) : D.rev ≤ (D.adds E).rev ∧ (D.adds E).rev ≤ D.rev + 1 := by
 rw [Doc.adds_rev D E _ h.mods]
 split <;> omega
theorem znq (T : Pairs) (k : ByteArray) (m : Int) : (insT T k m).length ≤ T.length + 1 := by
 induction T with
 | nil => simp [insT]
 | cons p T ih =>
   unfold insT
   split
   · simp; omega
   · split <;> simp
theorem zwg (S : St) (x : Ev) : (doS S x).T.length ≤ S.T.length + if x.kind = 1 then 1 else 0 := by
 show (doneS S x).T.length ≤ _
 unfold doneS
 split
 · unfold putS madeS
   dsimp only
   split
   · omega
   · exact znq _ _ _
 · unfold tombS
   split <;> simp
theorem zqx {S : St} (h : Sorted S.T) (x : Ev) : Sorted (doS S x).T := by
 show Sorted (doneS S x).T
 unfold doneS
 split
 · unfold putS madeS
   dsimp only
   split
   · exact h
   · exact (zid _ h _ _).1
 · unfold tombS
   split <;> exact h
theorem zwf (S : St) (x : Ev) : (doS S x).rev = S.rev := by
 show (doneS S x).rev = S.rev
 unfold doneS putS tombS madeS; dsimp only
 split
 · split <;> rfl
 · split <;> rfl
theorem SInv.open_lives {M : Int} {S : St} (h : SInv M S) {k : ByteArray} (hk : (getT S.T k).2 = true) {H : Hist} (hH : S.past (getT S.T k).1 = some H) {r : Int} (hr : H.last ≤ r) : (livesS S k r).2 = isOpen H.gens := by
 unfold livesS; rw [if_pos hk, hH]; exact ztb (h.hist _ _ hH).1.1 hr
theorem zuu {M : Int} {S : St} (h : SInv M S) (hM : 0 ≤ M) (x : Ev) {B : Int} (_hB : 0 ≤ B) {k : ByteArray} (hk : (getT (doS S x).T k).2 = true) {H : Hist} (hH : (doS S x).past (getT (doS S x).T k).1 = some H)
 (hl : (getT S.T k).2 = true → ∀ H, S.past (getT S.T k).1 = some H → H.last ≤ B ∨ k = x.kv.key) : H.last ≤ B ∨ k = x.kv.key := by
 by_cases hkx : k = x.kv.key
 · exact .inr hkx
 have hl' : (getT S.T k).2 = true → ∀ H, S.past (getT S.T k).1 = some H → H.last ≤ B := fun a H b => (hl a H b).resolve_right hkx; refine .inl ?_; have hne : keq x.kv.key k = false := by rw [Bool.eq_false_iff]; exact fun e => hkx (zat.1 e).symm
 change (getT (doneS S x).T k).2 = true at hk; change (doneS S x).past (getT (doneS S x).T k).1 = some H at hH; unfold doneS at hk hH; by_cases h1 : x.kind = 1
 · rw [if_pos h1] at hk hH
   obtain ⟨a, b, c, d⟩ := h.made hM x.kv.key; unfold putS at hk hH; dsimp only at hk hH
   have hid : (getT (madeS S x.kv.key).T k).1 ≠ idS S x.kv.key := fun e => by
    have := a.inj k x.kv.key hk b (e.trans c.symm); exact hkx this
   rw [if_neg hid] at hH
   -- behind 'made' the other keys are as they were
   unfold madeS at hk hH; by_cases hg : (getT S.T x.kv.key).2 = true
   · rw [if_pos hg] at hk hH
     exact hl' hk H hH
   · rw [if_neg hg] at hk hH
     dsimp only at hk hH; rw [zcv, hne] at hk hH; simp only [Bool.false_eq_true, if_false] at hk hH; obtain ⟨G, hG⟩ := h.has k hk; have := (h.hist _ _ hG).2; rw [if_neg (by omega)] at hH; exact hl' hk H hH
 · rw [if_neg h1] at hk hH
   unfold tombS at hk hH; by_cases hg : (getT S.T x.kv.key).2 = true
   · rw [if_pos hg] at hk hH
     dsimp only at hk hH; rw [if_neg fun e => hkx (h.inj k x.kv.key hk hg e)] at hH; exact hl' hk H hH
   · rw [if_neg hg] at hk hH
     exact hl' hk H hH
theorem RunOk.event {c n N : Nat} {D : Doc} {P : List Opr} {S : St} {E : List Ev} (h : RunOk c n D P S E) (x : Ev) (hD0 : 0 ≤ D.rev) (hmod : x.kv.mod = D.rev + 1) (htop : D.rev + 1 ≤ top) (hmk : D.mark ≤ D.rev)
 (hp : x.prev = (hasL ((D.adds E).at (D.rev + 1)) x.kv.key).getD kv0) (hfree : ∀ e ∈ E, e.kv.key ≠ x.kv.key) (hN : c < N)
 (hk : (x.kind = 1 ∧ (x.kv.version = x.prev.version + 1) ∧ ∃ o ∈ P, o.kind = 1 ∧ o.rg.key = x.kv.key) ∨ (x.kind = 2 ∧ (∃ o ∈ P, o.kind = 2 ∧ inB x.kv.key o.rg.key o.rg.end_ = true) ∧ hasL ((D.adds E).at (D.rev + 1)) x.kv.key ≠ none)) :
 DoOk N S x ∧ RunOk (c + if x.kind = 1 then 1 else 0) (n + 1) D P (doS S x) (E ++ [x]) := by
 have hrev := h.rev; have hpt := Doc.adds_parts D E; have hks : KSorted D.kvs := by have := h.cpl.ks; rw [hpt.2.1] at this; exact this
 have hmark : (D.adds E).mark < x.kv.mod := by rw [hpt.1]; omega
 -- the key's history is older
 have hlast : (getT S.T x.kv.key).2 = true → ∀ H, S.past (getT S.T x.kv.key).1 = some H → H.last < x.kv.mod := fun a H b => by
  rcases h.last _ a H b with h1 | ⟨e, h1, h2⟩
  · omega
  · exact absurd h2 (hfree e h1)
 have hkind : x.kind = 1 ∨ x.kind = 2 := hk.imp (·.1) (·.1)
 have hdel : x.kind ≠ 1 → (getT S.T x.kv.key).2 = true ∧ ∀ H, S.past (getT S.T x.kv.key).1 = some H → isOpen H.gens = true := fun hx => by
  rcases hk with hk | ⟨_, _, hne⟩
  · exact absurd hk.1 hx
  · cases hh : hasL ((D.adds E).at (D.rev + 1)) x.kv.key with
    | none => exact absurd hh hne
    | some y =>
      have hmr : (D.adds E).mark ≤ D.rev + 1 := (by rw [hpt.1]; omega); have hg := h.cpl.has hmr hh; refine ⟨hg, fun H hH => ?_⟩; have hl := hlast hg H hH; have h2 := h.cpl.inv.open_lives hg hH (r := D.rev + 1) (by omega); rw [← h2, h.cpl.lives _ _ hmr, hh]
      rfl
 have hver : x.kind = 1 → 1 ≤ x.kv.version ∧ x.kv.version ≤ (n : Int) + 1 := fun hx => by
  rcases hk with ⟨_, hv, _⟩ | hk
  · have h1 := h.doc.ver_has (by rw [hpt.2.1]; exact hks) (D.rev + 1) x.kv.key
    rw [← hp] at h1; omega
  · rw [hk.1] at hx; cases hx
 have hcpl := h.cpl.does x (by omega) (by omega) hmark hlast hdel
 have hdoc := h.doc.add x (by omega) hmark (by omega) (by omega) (by rw [hmod]; exact hp) hkind hver (fun e he hem => by
  rw [hpt.2.2] at he; rcases List.mem_append.1 he with he | he
  · have := h.old e he; omega
  · exact hfree e he)
 refine ⟨⟨by omega, by omega, fun H a b => hlast b H a, fun _ _ => by have := h.size; omega, fun hx H a b => (hdel hx).2 H a⟩, ?_⟩; refine ⟨by rw [Doc.adds_snoc]; exact hcpl, by rw [Doc.adds_snoc]; exact hdoc, doS_ok h.ok x (by omega) (by omega), ?_, zqx h.srt x, h.more.doS h.cpl.inv (by omega) x (by omega) hlast hdel, by rw [zwf]; exact h.srev, fun e he => ?_, h.old, fun k a H b => ?_, fun e he => ?_⟩
 · have := zwg S x
   have := h.size; omega
 · rcases List.mem_append.1 he with he | he
   · exact h.mods e he
   · rw [List.mem_singleton.1 he]; exact hmod
 · by_cases hkx : k = x.kv.key
   · exact .inr ⟨x, List.mem_append_right _ List.mem_cons_self, hkx.symm⟩
   · by_cases hold : ∃ e ∈ E, e.kv.key = k
     · obtain ⟨e, h1, h2⟩ := hold
       exact .inr ⟨e, List.mem_append_left _ h1, h2⟩
     · refine .inl ?_
       refine (zuu h.cpl.inv (by omega) x hD0 a b fun a' H' b' => ?_).resolve_right hkx; exact .inl ((h.last k a' H' b').resolve_right hold)
 · have hnow : ∀ k, k ≠ x.kv.key → hasL ((D.adds (E ++ [x])).at (D.rev + 1)) k = hasL ((D.adds E).at (D.rev + 1)) k := fun k hkx => by
    rw [Doc.adds_snoc, Doc.add_at _ x hmark, if_pos (by omega), zfe (Doc.at_sorted (by rw [hpt.2.1]; exact hks) _), if_neg fun e => hkx (zat.1 e)]
   rcases List.mem_append.1 he with he | he
   · rcases h.by1 e he with h1 | ⟨h1, h2, h3⟩
     · exact .inl h1
     · exact .inr ⟨h1, h2, by rw [hnow _ (hfree e he)]; exact h3⟩
   · obtain rfl := List.mem_singleton.1 he
     rcases hk with ⟨h1, _, h2⟩ | ⟨h1, h2, _⟩
     · exact .inl ⟨h1, h2⟩
     · refine .inr ⟨h1, h2, ?_⟩
       rw [Doc.adds_snoc, Doc.add_at _ e hmark, if_pos (by omega), zfe (Doc.at_sorted (by rw [hpt.2.1]; exact hks) _), if_pos (zat.2 rfl), if_neg (by omega)]
end Go.Proofs.YthljnnjpmdgkoaaGreat