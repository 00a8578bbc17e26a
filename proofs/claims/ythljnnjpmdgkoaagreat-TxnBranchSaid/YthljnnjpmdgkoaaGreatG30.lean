/- Own lemmas and contracts that the claim's proof needs, laid together. The conditions stand in each. -/
import Derived.Test.YthljnnjpmdgkoaaGreatG22
import Derived.Test.YthljnnjpmdgkoaaGreatG21
import Derived.Test.YthljnnjpmdgkoaaGreatG29
import Derived.Test.YthljnnjpmdgkoaaGreatG09
import Derived.Test.YthljnnjpmdgkoaaGreatG08
import Derived.Deep.RegionHeld3
namespace Go.Proofs.YthljnnjpmdgkoaaGreat
open Go Go.Proofs Go.RowKit
set_option maxRecDepth 100000
theorem zfb {TA : zao} (hT : TreeOk TA 1000000) {k : Nat} {S : St} {D : Doc} (h : Good k S D) (hk : k ≤ 70) (w : World) (s : Nat) (F : Nat → Prop) (hS : zaj TA w s S F) :
 Calls Tryz.prog 23 #[.pointer (some ⟨s, 0, none⟩)] w fun e w' => ∃ a1 c1 a2 c2, e = .returned (stateV D.rev D.mark (.slice a1 D.kvs.length c1) (.slice a2 D.events.length c2)) ∧ SlF w' 99 6 kvC (.slice a1 D.kvs.length c1) D.kvs ∧ SlF w' 101 13 evC (.slice a2 D.events.length c2) D.events ∧ Fr No w w' ∧ (∀ b, (Value.slice a1 D.kvs.length c1).ownBlock = some b → w.heap.size ≤ b) ∧ (∀ b, (Value.slice a2 D.events.length c2).ownBlock = some b → w.heap.size ≤ b) := by
 refine (zoo hT (n := 20000 * k) (by omega) w s S F hS h.ok (by have := h.size; omega)).mono ?_; rintro e w' ⟨kv, ev, rfl, h1, h2, h3, h4, h5⟩; rw [zfx h] at h1; rw [h.cpl.events] at h2; obtain ⟨a1, c1, rfl, _, _, _⟩ := h1.shape; obtain ⟨a2, c2, rfl, _, _, _⟩ := h2.shape; exact ⟨a1, c1, a2, c2, by rw [h.rev, h.cpl.mark], h1, h2, h3, h4, h5⟩
def zpv (TA : zao) (l : List CalQ) (w : World) (e : Ending) (w' : World) : Prop := ∃ s a1 c1 a2 c2 b, e = .returned (.tuple #[.pointer (some ⟨s, 0, none⟩), docV (donesT l l.length).2 (.slice a1 (donesT l l.length).2.kvs.length c1) (.slice a2 (donesT l l.length).2.events.length c2), .bool b]) ∧
 SlF w' 99 6 kvC (.slice a1 (donesT l l.length).2.kvs.length c1) (donesT l l.length).2.kvs ∧ SlF w' 101 13 evC (.slice a2 (donesT l l.length).2.events.length c2) (donesT l l.length).2.events ∧ (b = true ↔ zbh (donesT l l.length).2) ∧
 ∃ F, zaj TA w' s (donesT l l.length).1 F ∧ Fr No w w' ∧ (∀ b, F b → w.heap.size ≤ b) ∧ (∀ b, (Value.slice a1 (donesT l l.length).2.kvs.length c1).ownBlock = some b → ¬ F b ∧ w.heap.size ≤ b) ∧ (∀ b, (Value.slice a2 (donesT l l.length).2.events.length c2).ownBlock = some b → ¬ F b ∧ w.heap.size ≤ b)
set_option maxHeartbeats 8000000 in
theorem zfu {TA : zao} (hT : TreeOk TA 1000000) (hTD : TreeDl TA) (w : World) (v : Value) (l : List CalQ) (hv : CalR w v l) (hf : zbc l = true) (hsm : DocSm (donesT l l.length).2) :
 Calls Tryz.prog 30 #[v] w (zpv TA l w) := by
 obtain ⟨h1, h2⟩ := zbj hf; have hgd := zcr hf; obtain ⟨hv, hops, hkeys⟩ := hv; obtain ⟨a, cap, rfl, hc1, hc2, ha⟩ := hv.shape; have HV := H_ hv; have HA := H_ ha; have HO := H_ hops; have HK := H_ hkeys; have HG := H_ hgd; have H2 := H_ h2; clear hv ha hops hkeys hgd hf h2; have HSM := H_ hsm; clear hsm; have hzb := zad w (Obj.cells #[.int .i64 0, .int .i64 0, .slice none 0 0, .slice none 0 0] 30) _ rfl; have hf0 : Fr No w (w.alloc (Obj.cells #[.int .i64 0, .int .i64 0, .slice none 0 0, .slice none 0 0] 30)) := (Fr.refl No w).alloc _; have HZB := H_ hzb; have HF0 := H_ hf0; clear hzb hf0; go_enter Tryz.func30, Tryz.ntmps30; go_wp2_with (go_at_call 17; refine (zfl hT _).mono ?_; rintro e w1 ⟨s, rfl, F0, hs0, hf1, hn0⟩); have HS0 : Hid (zaj TA w1 s (donesT l 0).1 F0) := H_ hs0; have HN0 : Hid (∀ b, F0 b → w.heap.size + 1 ≤ b) := H_ (fun b hb => by have := hn0 b hb; simpa using this)
 have HB0 := H_ (hf1.heap HZB.out id); have HF1 := H_ (HF0.out.trans0 hf1); clear hs0 hn0 hf1
 go_loopg [6] l.length (fun g s6 wr => ∃ (i : Nat) (F : Nat → Prop), s6 = .int .i64 i ∧ i + g = l.length ∧ Hid (zaj TA wr s (donesT l i).1 F) ∧ Hid (Fr No w wr) ∧ Hid (∀ b, F b → w.heap.size + 1 ≤ b) ∧ Hid (wr.heap[w.heap.size]? = some (.cells #[.int .i64 0, .int .i64 0, .slice none 0 0, .slice none 0 0] 30 (0, 0))))
 case atStart => exact ⟨0, F0, rfl, by simp, HS0, HF1, HN0, HB0⟩
 case round =>
  obtain ⟨i, F, rfl, hi, HS, HF, HN, HBZ⟩ := hrel
  cases gk with
  | zero =>
    have hil : ¬ (i : Int) < (l.length : Int) := (by omega); have hie : i = l.length := (by omega); subst hie; have hG := HG.out l.length (Nat.le_refl _); have hst := zfb hT hG (by omega) wr s F HS.out; generalize hSD : donesT l l.length = SD at *; obtain ⟨S, D⟩ := SD; have HSD := H_ hSD; clear hSD; dsimp only at hG hst HSM HS ⊢
    have HST := H_ hst; clear hst hG; go_upto_region 7 with (go_at_call 23; with_reducible refine HST.out.mono ?_; rintro e w2 ⟨a1, c1, a2, c2, rfl, hk2, he2, hf2, hn1, hn2⟩; unfold stateV); have hbz := hf2.heap HBZ.out id; have lbz := zaa hbz; have hS2 := HS.out.fr0 hT hf2; have hFlt := HS.out.lt hT; have hsz2 := hf2.size; have hcr : Hid (∀ W, Fr No w2 W → Calls Tryz.prog 25 #[docV D (.slice a1 D.kvs.length c1) (.slice a2 D.events.length c2)] W (RightR D W)) := H_ fun W hW => ziw W D _ _ ⟨(hk2.toR zaf).fr0 hW, (he2.toR zab).fr0 hW⟩ HSM.out; unfold docV at hcr; have hcp := fun W => zcg W D.rev D.mark D.kvs.length D.events.length c1 c2 a1 a2; unfold stateV at hcp; have HCP := H_ hcp; have HK2 := H_ hk2; have HE2 := H_ he2; have HS2 := H_ hS2; have HF2 := H_ (HF.out.trans0 hf2); have HBZ2 := H_ hbz; have HN1 := H_ hn1; have HN2 := H_ hn2; have HFL := H_ hFlt; have HCR := hcr
    clear hk2 he2 hS2 hf2 hbz hn1 hn2 hFlt hcp hcr; have hW3 : Fr No w2 (w2.alloc (Obj.cells #[.int .i64 D.rev, .int .i64 D.mark, .slice a1 D.kvs.length c1, .slice a2 D.events.length c2] 42)) := (Fr.refl No w2).alloc _; have hnb := zad w2 (Obj.cells #[.int .i64 D.rev, .int .i64 D.mark, .slice a1 D.kvs.length c1, .slice a2 D.events.length c2] 42) _ rfl; generalize w2.alloc (Obj.cells #[.int .i64 D.rev, .int .i64 D.mark, .slice a1 D.kvs.length c1, .slice a2 D.events.length c2] 42) = W3 at *; generalize w2.heap.size = nb at *; obtain ⟨k0, k1, k2, k3⟩ := cells4 hnb; have lnb := zaa hnb; have HW3 := H_ hW3; clear hnb hW3
    have HQ : Hid (∀ W, Fr No W3 W → W.cell? ⟨nb, 0, none⟩ = some (.int .i64 D.rev) ∧ W.cell? ⟨nb, 1, none⟩ = some (.int .i64 D.mark) ∧ W.cell? ⟨nb, 2, none⟩ = some (.slice a1 D.kvs.length c1) ∧ W.cell? ⟨nb, 3, none⟩ = some (.slice a2 D.events.length c2)) := H_ fun W hW => ⟨hW.cell0 k0, hW.cell0 k1, hW.cell0 k2, hW.cell0 k3⟩; have q1 := HQ.out _ (Fr.refl No W3); have q2 := HQ.out _ (Fr.refl No W3).drew; have C1 := H_ (HCP.out W3.drew)
    go_region_held3 (fun W => W.cell? ⟨nb, 0, none⟩ = some (.int .i64 D.rev) ∧ W.cell? ⟨nb, 1, none⟩ = some (.int .i64 D.mark) ∧ W.cell? ⟨nb, 2, none⟩ = some (.slice a1 D.kvs.length c1) ∧ W.cell? ⟨nb, 3, none⟩ = some (.slice a2 D.events.length c2))
     (first | with_reducible exact q1 | with_reducible exact q2 | with_reducible exact q4 | with_reducible exact q5 | with_reducible exact q6 | with_reducible exact q7)
     (first
       | (go_at_call 22; (with_reducible refine C1.out.mono ?_); rintro e w4 ⟨rfl, hf4⟩
          have h4 : Fr No W3 w4 := (Fr.refl No W3).drew.trans0 hf4; have q4 := HQ.out _ h4; have C2 := H_ (HCP.out w4); have H4 := H_ h4; clear hf4 h4)
       | (go_at_call 22; (with_reducible refine C2.out.mono ?_); rintro e w5 ⟨rfl, hf5⟩
          have h5 : Fr No W3 w5 := H4.out.trans0 hf5; have q5 := HQ.out _ h5; have C3 := H_ (HCR.out w5 (HW3.out.trans0 h5)); have H5 := H_ h5; clear hf5 h5)
       | (go_at_call 25; (with_reducible refine C3.out.mono ?_); rintro e w6 ⟨b, rfl, hb6, hf6⟩
          have h6 : Fr No W3 w6 := H5.out.trans0 hf6; have q6 := HQ.out _ h6; have z6 := h6.heap (HW3.out.heap HBZ2.out id) id; obtain ⟨y0, y1, y2, y3⟩ := cells4 z6; have yf : ∀ i, w6.frozen? ⟨w.heap.size, i, none⟩ = false := fun i => by unfold World.frozen?; dsimp only; rw [z6]; simp
          have ly := zaa z6; have hst6 : Fr (fun b => b = w.heap.size) w6 ((((w6.setCell ⟨w.heap.size, 0, none⟩ (.int .i64 D.rev)).setCell ⟨w.heap.size, 1, none⟩ (.int .i64 D.mark)).setCell ⟨w.heap.size, 2, none⟩ (.slice a1 D.kvs.length c1)).setCell ⟨w.heap.size, 3, none⟩ (.slice a2 D.events.length c2)) := ((((Fr.refl _ w6).setAt 0 _).setAt 1 _).setAt 2 _).setAt 3 _; have q7 := And.intro (hst6.cell q6.1 (fun e => by have e' : nb = w.heap.size := e; omega)) (And.intro (hst6.cell q6.2.1 (fun e => by have e' : nb = w.heap.size := e; omega)) (And.intro (hst6.cell q6.2.2.1 (fun e => by have e' : nb = w.heap.size := e; omega)) (hst6.cell q6.2.2.2 (fun e => by have e' : nb = w.heap.size := e; omega)))); have HST6 := H_ hst6; clear hst6; have H6 := H_ h6; have Z6 := H_ z6; have HB6 := H_ hb6; clear hf6 h6 z6 hb6))
    have z0 := zac Z6.out 0 (.int .i64 D.rev); have z1 := zac z0 1 (.int .i64 D.mark); have z2 := zac z1 2 (.slice a1 D.kvs.length c1); have z3 := zac z2 3 (.slice a2 D.events.length c2); have HSTZ := HST6.out; clear z0 z1 z2 q1 q2 q4 q5 q6 q7 k0 k1 k2 k3 y0 y1 y2 y3 yf HST6; generalize ((((w6.setCell ⟨w.heap.size, 0, none⟩ (.int .i64 D.rev)).setCell ⟨w.heap.size, 1, none⟩ (.int .i64 D.mark)).setCell ⟨w.heap.size, 2, none⟩ (.slice a1 D.kvs.length c1)).setCell ⟨w.heap.size, 3, none⟩ (.slice a2 D.events.length c2)) = Z at *; simp at z3; have HZ3 := H_ z3; obtain ⟨c0, c1', c2', c3'⟩ := cells4 z3; clear z3; go_wp2; have hww6 : Fr No w w6 := HF2.out.trans0 (HW3.out.trans0 H6.out)
    have hwZ : Fr No w Z := ⟨HSTZ.os.trans hww6.os, HSTZ.tape.trans hww6.tape, HSTZ.output.trans hww6.output, Nat.le_trans hww6.size HSTZ.size, fun k hk _ => (HSTZ.block k (Nat.lt_of_lt_of_le hk hww6.size) (fun e => by have e' : k = w.heap.size := e; omega)).trans (hww6.block k hk id)⟩; have h26 : Fr (fun b => b = w.heap.size) w2 Z := ((HW3.out.trans0 H6.out).mono (fun _ _ h => h.elim)).trans HSTZ fun _ _ h => h; refine bodyPost_ret (v := .tuple #[.pointer (some ⟨s, 0, none⟩), docV D (.slice a1 D.kvs.length c1) (.slice a2 D.events.length c2), .bool b]) ?_ rfl ?_
    · unfold docV
      simp [results, Tryz.results30, go_sem, c0, c1', c2', c3']
    · unfold zpv
      rw [HSD.out]; have hF1 : ∀ b, F b → w.heap.size ≤ b ∧ b ≠ w.heap.size := fun b hb => by have := HN.out b hb; omega
      refine ⟨s, a1, c1, a2, c2, b, rfl, HK2.out.fr h26 (fun b hb e => ?_), HE2.out.fr h26 (fun b hb e => ?_), HB6.out, F, HS2.out.fr hT h26 (fun b hb e => (hF1 b hb).2 e), hwZ, fun b hb => (hF1 b hb).1, fun b hb => ⟨fun h => ?_, ?_⟩, fun b hb => ⟨fun h => ?_, ?_⟩⟩
      · have h1 := HN1.out b hb; have e' : b = w.heap.size := e; have := zaa HBZ.out; omega
      · have h1 := HN2.out b hb; have e' : b = w.heap.size := e; have := zaa HBZ.out; omega
      · have h1 := HN1.out b hb; have := HFL.out b h; omega
      · have h1 := HN1.out b hb; have := HF.out.size; omega
      · have h1 := HN2.out b hb; have := HFL.out b h; omega
      · have h1 := HN2.out b hb; have := HF.out.size; omega
  | succ g =>
    obtain ⟨gb, go, rfl⟩ := HA.out (by omega); obtain ⟨q, hx⟩ : ∃ q, l[i]? = some q := ⟨_, List.getElem?_eq_getElem (by omega)⟩; have hvr := HV.out.fr0 HF.out; have x0 := hvr.cell0 zas i hx rfl; have x1 := hvr.cell zas i 1 hx rfl; have x2 := hvr.cell zas i 2 hx rfl; have x3 := hvr.cell zas i 3 hx rfl; have x4 := hvr.cell zas i 4 hx rfl; have x5 := hvr.cell zas i 5 hx rfl; have x6 := hvr.cell zas i 6 hx rfl; have x7 := hvr.cell zas i 7 hx rfl; have x8 := hvr.cell zas i 8 hx rfl; have x9 := hvr.cell zas i 9 hx rfl; have x10 := hvr.cell zas i 10 hx rfl; have x11 := hvr.cell zas i 11 hx rfl; have hil : (i : Int) < (l.length : Int) := (by omega); have hops := HO.out i q hx; have hkeys := HK.out i q hx; have hdo := zvs hT hTD (HG.out i (by omega)) (by omega) wr s F HS.out q (H2.out q (List.mem_of_getElem? hx)) (hops.fr0 HF.out) (hkeys.fr0 HF.out)
     (fun hp b hb hF => by have := hops.lt zag (by decide) hp b hb; have := HN.out b hF; omega) (fun hp b hb hF => by have := hkeys.lt zds (by decide) hp b hb; have := HN.out b hF; omega)
    have hsu := zec l hx; obtain ⟨oa, ocap, hos, _, _, _⟩ := hops.shape; obtain ⟨ka, kcap, hks, _, _, _⟩ := hkeys.shape; have HDO := H_ hdo; have HSU := H_ hsu; clear hdo hsu hx hvr hops hkeys; obtain ⟨⟨p1, p2, ⟨g1, g2, g3, g4, g5, g6, g7⟩, p3, p4, p5⟩, ops, keys⟩ := q; dsimp only at hos hks; subst hos hks; unfold calC rgC at *; dsimp only at *; go_wp2_with (go_at_call 27; refine HDO.out.mono ?_; rintro e w2 ⟨rfl, F2, hs2, hf2, hn2⟩); go_roundg g
    case rel =>
     have hsz := HF.out.size; have hzl := zaa HBZ.out
     exact ⟨i + 1, F2, by go_num, by omega, H_ (by rw [HSU.out]; exact hs2), H_ (HF.out.trans hf2 fun b hb h => by have := HN.out b h; omega), H_ fun b hb => by
      rcases hn2 b hb with h | h
      · exact HN.out b h
      · omega, H_ (hf2.heap HBZ.out (fun h => by have := HN.out _ h; omega))⟩
    case measure => omega
def PrevOk (D : Doc) : Prop := ∀ e ∈ D.events, e.prev = kv0 ∨ e.prev.key = e.kv.key
theorem zva {l : List Kv} {k : ByteArray} : (hasL l k).getD kv0 = kv0 ∨ ((hasL l k).getD kv0).key = k := by
 unfold hasL
 cases h : l.find? fun x => keq x.key k with
 | none => exact .inl rfl
 | some y =>
   have := List.find?_some h; exact .inr (zat.1 this)
theorem PrevOk.cut {D : Doc} (h : PrevOk D) (R : Int) : PrevOk (D.cut R) := fun e he => h e (List.mem_filter.1 he).1
theorem DocOk.prevs {n : Nat} {D : Doc} (h : DocOk n D) {e : Ev} (he : e ∈ D.events) (hm : D.mark < e.kv.mod) : e.prev = kv0 ∨ e.prev.key = e.kv.key := by
 obtain ⟨A, B, hAB⟩ := List.append_of_mem he; rw [h.prev A e B hAB hm]; exact zva
theorem PrevOk.adds {n : Nat} {D : Doc} {E : List Ev} (h : PrevOk D) (hd : DocOk n (D.adds E)) (hm : ∀ e ∈ E, e.kv.mod = D.rev + 1) (hmr : D.mark ≤ D.rev) : PrevOk (D.adds E) := by
 obtain ⟨a, b, c⟩ := Doc.adds_parts D E; intro e he; have he' := he; rw [c] at he'; rcases List.mem_append.1 he' with h1 | h1
 · exact h e h1
 · exact hd.prevs he (by rw [a, hm e h1]; omega)
theorem zsk {k : Nat} {S : St} {D : Doc} (h : Good k S D) (hk : k ≤ 70) {q : CalQ} (hq : fewCal q = true) (hD : PrevOk D) : PrevOk (doD S D q) := by
 obtain ⟨f1, f2, f3, f4, f5⟩ := zgf hq; have hm0 := h.cpl.m0; unfold doD; by_cases h4 : kindN q.1.kind = 4
 · rw [if_pos h4]; exact hD
 · rw [if_neg h4]
   by_cases h5 : kindN q.1.kind = 5
   · rw [if_pos h5]
     split
     · exact hD.cut _
     · exact hD
   · rw [if_neg h5]
     by_cases h6 : kindN q.1.kind = 6
     · rw [if_pos h6]; exact hD
     · rw [if_neg h6]
       by_cases h7 : kindN q.1.kind = 7
       · rw [if_pos h7]
         obtain ⟨a, _⟩ := h.drops hk q.2.2 f3 q.2.2.length (Nat.le_refl _); have he : dropTo (D.rev + 1) S q.2.2 q.2.2.length = q.2.2.foldl (dropR (D.rev + 1)) (S, []) := (by unfold dropTo; rw [List.take_length]); rw [he] at a; exact hD.adds a.doc a.mods hm0.2
       · rw [if_neg h7]
         by_cases ha : applyE S q.2.1 = 0
         · rw [if_pos ha]
           obtain ⟨⟨a, _⟩, _⟩ := h.runs hk (zbe ha).1 (fun o ho => by have := (f1 o ho).1; omega) q.2.1.length (Nat.le_refl _); rw [List.take_length] at a; exact hD.adds a.doc a.mods hm0.2
         · rw [if_neg ha]; exact hD
theorem zqt {l : List CalQ} (h : zbc l = true) : ∀ i ≤ l.length, PrevOk (donesT l i).2 := by
 obtain ⟨h1, h2⟩ := zbj h; have hg := zcr h; intro i
 induction i with
 | zero => intro _ e he; simp [donesT, newD] at he
 | succ i ih =>
   intro hi; obtain ⟨q, hq⟩ : ∃ q, l[i]? = some q := ⟨_, List.getElem?_eq_getElem (by omega)⟩; rw [zec l hq]; exact zsk (hg i (by omega)) (by omega) (h2 q (List.mem_of_getElem? hq)) (ih (by omega))
theorem zpr {l : List CalQ} (h : zbc l = true) : DocSm (donesT l l.length).2 := by
 obtain ⟨h1, _⟩ := zbj h; have hG := zcr h l.length (Nat.le_refl _); have hK := zqu h l.length (Nat.le_refl _); have hP := zqt h l.length (Nat.le_refl _); generalize donesT l l.length = SD at *; obtain ⟨S, D⟩ := SD; dsimp only at hG hK hP ⊢
 refine ⟨fun k hk => ?_, fun x hx => ⟨?_, ?_⟩, ?_⟩
 · have := (zif (hK.kvs k hk)).2; omega
 · have := (zif (hK.evs x hx)).2; omega
 · have h3 := (zif (hK.evs x hx)).2
   rcases hP x hx with e | e
   · rw [e]; show ByteArray.empty.size ≤ _; exact Nat.zero_le _
   · rw [e]; omega
 · have hev : D.events.length ≤ 20000 * l.length := by have := hG.ok.ev; rw [← hG.cpl.events]; omega
   have hkl : D.kvs.length ≤ 16 * l.length := by
    have h1 := hG.size; rw [← zfx hG]; unfold zam; exact Nat.le_trans (List.length_filterMap_le _ _) (by omega)
   omega
def allB (S : St) (cs : List Cmp) : Bool := cs.all (holdsB S)
def branch (S : St) (cs : List Cmp) (la lb : List Opr) : List Opr := if allB S cs then la else lb
def noneC : Cmp := ⟨bA, 2, 0, 0, ByteArray.empty⟩
def oneC : Cmp := ⟨bA, 1, 0, 1, ByteArray.empty⟩
def sixC : Cmp := ⟨bA, 6, 0, 0, ByteArray.empty⟩
def S1 : St := applyS st0 [putO bA b1]
def S2 : St := applyS S1 [putO bB b2]
theorem chk_e : txnE [sixC] [] [] = 1 := by kernel_rfl
theorem S2_rev : S2.rev = 2 := by kernel_rfl
theorem zuz : holdsB S2 oneC = true := by kernel_rfl
theorem S2_len : S2.T.length = 2 := by kernel_rfl
theorem zwq : applyS S1 [getO bA] = S1 := by kernel_rfl
theorem zse : ((runR (S1.rev + 1) ⟨S1, [], []⟩ [getO bA]).A).map (fun a => (a.kvs.length, a.count)) = [(1, 1)] := by kernel_rfl
def runE (S : St) (cs : List Cmp) (la lb : List Opr) : Int := if txnE cs la lb ≠ 0 then txnE cs la lb else applyE S (branch S cs la lb)
theorem zfc {TA : zao} (hT : TreeOk TA 1000000) {k : Nat} {S : St} {D : Doc} (h : Good k S D) (hk : k ≤ 70) (w : World) (s : Nat) (F : Nat → Prop) (hS : zaj TA w s S F) (v : Value) (ops : List Opr) (hv : SlR w 10 opC v ops)
 (hvF : 0 < ops.length → ∀ b, v.ownBlock = some b → ¬ F b) (hl : ops.length ≤ 30) (hks : ∀ o ∈ ops, o.rg.key.size ≤ 3000) :
 Calls Tryz.prog 37 #[.pointer (some ⟨s, 0, none⟩), v] w fun e w' => ∃ av ev, e = .returned (.tuple #[av, ev, .int .i64 (applyE S ops)]) ∧ ∃ F' Z, zaj TA w' s (if applyE S ops = 0 then applyS S ops else S) F' ∧ AnsR w' av Z ∧
  Z.map (·.1) = (if applyE S ops = 0 then (runR (S.rev + 1) ⟨S, [], []⟩ ops).A else []) ∧ SlF w' 101 13 evC ev (if applyE S ops = 0 then (runR (S.rev + 1) ⟨S, [], []⟩ ops).E else []) ∧ Fr F w w' ∧ (∀ b, F' b → F b ∨ w.heap.size ≤ b) ∧
  (∀ b, ev.ownBlock = some b → w.heap.size ≤ b ∧ ¬ F' b) ∧ (∀ b, ansF av Z b → w.heap.size ≤ b ∧ ¬ F' b) := by
 have hr := h.rev; have hr1 := h.rev1; have hm0 := h.cpl.m0; by_cases he : applyE S ops = 0
 · obtain ⟨e1, e2⟩ := zbe he
   simp only [if_pos he]; rw [he]; refine (zmp hT (n := 20000 * k + 20000) (by omega) w s S F hS v ops hv hvF (by omega) (fun o ho => by have := hks o ho; omega) (by unfold top; omega) (by unfold top; omega) e1 e2 fun i o ho => ?_); have hil := (List.getElem?_eq_some_iff.1 ho).1; rw [hr]; exact (h.runs hk e1 (fun o ho => by have := hks o ho; omega) i (by omega)).2 o ho
 · simp only [if_neg he]
   refine (zmo hT w s S F hS v ops hv (by omega) (fun o ho => by have := hks o ho; omega) he).mono ?_; rintro e w' ⟨rfl, hf⟩; refine ⟨_, _, rfl, F, [], hS.fr0 hT hf, AnsR.nil _, rfl, SlF.nil _ _ _ _, hf.mono fun _ _ h => h.elim, fun b h => .inl h, fun b hb => by simp [Value.ownBlock] at hb, fun b hb => ?_⟩; rcases hb with hb | ⟨i, q, hq, _⟩
   · simp [Value.ownBlock] at hb
   · simp at hq
def RunRE (TA : zao) (s : Nat) (S : St) (F : Nat → Prop) (cs : List Cmp) (br : List Opr) (RE : Int) (w : World) (e : Ending) (w' : World) : Prop :=
 ∃ av ev, e = .returned (.tuple #[.bool (decide (RE = 0) && allB S cs), av, ev, .int .i64 RE]) ∧ ∃ F' Z, zaj TA w' s (if RE = 0 then applyS S br else S) F' ∧ AnsR w' av Z ∧
  Z.map (·.1) = (if RE = 0 then (runR (S.rev + 1) ⟨S, [], []⟩ br).A else []) ∧ SlF w' 101 13 evC ev (if RE = 0 then (runR (S.rev + 1) ⟨S, [], []⟩ br).E else []) ∧ Fr F w w' ∧ (∀ b, F' b → F b ∨ w.heap.size ≤ b) ∧
  (∀ b, ev.ownBlock = some b → w.heap.size ≤ b ∧ ¬ F' b) ∧ (∀ b, ansF av Z b → w.heap.size ≤ b ∧ ¬ F' b)
def RunR (TA : zao) (s : Nat) (S : St) (F : Nat → Prop) (cs : List Cmp) (la lb : List Opr) (w : World) (e : Ending) (w' : World) : Prop := RunRE TA s S F cs (branch S cs la lb) (runE S cs la lb) w e w'
theorem zmr {TA : zao} {N : Nat} (hT : TreeOk TA N) {n : Nat} (hn : n ≤ 1099511627) (w : World) (s : Nat) (S : St) (F : Nat → Prop) (hS : zaj TA w s S F) (hok : StOk n S) (hN : S.T.length ≤ 1099511627) (hr0 : 0 ≤ S.rev) (c : Cmp)
 (hs : c.key.size ≤ 1099511627776) :
 Calls Tryz.prog 31 #[.pointer (some ⟨s, 0, none⟩), cmpV c] w fun e w' => e = .returned (.bool (holdsB S c)) ∧ Fr No w w' := by
 by_cases hE : cmpE c = 0
 · exact ziq hT hn w s S F hS hok hN hr0 c hs hE
 · have hb : holdsB S c = false := by unfold holdsB; rw [show (cmpE c == 0) = false from beq_eq_false_iff_ne.2 hE]; rfl
   rw [hb]; exact zms w s c hs hE
set_option maxHeartbeats 4000000 in
theorem zoq {TA : zao} (hT : TreeOk TA 1000000) {k : Nat} {S : St} {D : Doc} (h : Good k S D) (hk : k ≤ 70) (w : World) (s : Nat) (F : Nat → Prop) (hS : zaj TA w s S F)
 (v va vb : Value) (cs : List Cmp) (la lb : List Opr) (hv : SlR w 5 cmpC v cs) (hva : SlR w 10 opC va la) (hvb : SlR w 10 opC vb lb)
 (haF : 0 < la.length → ∀ b, va.ownBlock = some b → ¬ F b) (hbF : 0 < lb.length → ∀ b, vb.ownBlock = some b → ¬ F b) (hlc : cs.length ≤ 30) (hla : la.length ≤ 30) (hlb : lb.length ≤ 30)
 (hks : ∀ c ∈ cs, c.key.size ≤ 3000) (hka : ∀ o ∈ la, o.rg.key.size ≤ 3000) (hkb : ∀ o ∈ lb, o.rg.key.size ≤ 3000) :
 Calls Tryz.prog 33 #[.pointer (some ⟨s, 0, none⟩), v, va, vb] w (RunR TA s S F cs la lb w) := by
 have hch := fun W (h : Fr No w W) => zdf W v va vb cs la lb (hv.fr0 h) (hva.fr0 h) (hvb.fr0 h) (by omega) (by omega) (by omega) (fun c h => by have := hks c h; omega) (fun o h => by have := hka o h; omega) (fun o h => by have := hkb o h; omega); by_cases hE : txnE cs la lb = 0
 · rw [hE] at hch
   have hre : runE S cs la lb = applyE S (branch S cs la lb) := (by unfold runE; rw [if_neg (by simp [hE])]); have hap := fun W (hf : Fr No w W) (vo : Value) (ho : SlR W 10 opC vo (branch S cs la lb)) (hoF : 0 < (branch S cs la lb).length → ∀ b, vo.ownBlock = some b → ¬ F b) => zfc hT h hk W s F (hS.fr0 hT hf) vo (branch S cs la lb) ho hoF
    (by unfold branch; split <;> assumption) (by unfold branch; split <;> assumption)
   rw [← hre] at hap; have hsz := h.size; have hrv := h.rev; have hm0 := h.cpl.m0; have hho := fun W (hf : Fr No w W) c (hc : c ∈ cs) => zmr hT (n := 20000 * k) (by omega) W s S F (hS.fr0 hT hf) h.ok (by omega) (by omega) c (by have := hks c hc; omega); obtain ⟨a, cap, rfl, hc1, hc2, ha⟩ := hv.shape; have HV := H_ hv; have HA := H_ ha; have HCH := H_ hch; have HAP := H_ hap; have HHO := H_ hho; have HVA := H_ hva; have HVB := H_ hvb; have HAF := H_ haF; have HBF := H_ hbF; have hbr : branch S cs la lb = if allB S cs then la else lb := rfl; have HBR := H_ hbr
   show Calls Tryz.prog 33 _ w (RunRE TA s S F cs (branch S cs la lb) (runE S cs la lb) w)
   generalize runE S cs la lb = RE at *; clear hv ha hch hap hho hva hvb haF hbF hE hks hka hkb hbr hS h hre hrv hm0 hsz; go_enter Tryz.func33, Tryz.ntmps33; go_wp2_with (go_at_call 38; refine (HCH.out _ (Fr.refl No w)).mono ?_; rintro e w1 ⟨rfl, hf1⟩)
   go_loopg [32, 13, 14] cs.length (fun g s32 s13 s14 wr => ∃ (i : Nat) (b : Bool), s32 = .int .i64 i ∧ i + g = cs.length ∧ s13 = .bool b ∧ s14 = (if b then va else vb) ∧ b = allB S (cs.take i) ∧ Hid (Fr No w wr))
   case atStart => exact ⟨0, true, rfl, by simp, rfl, rfl, rfl, H_ hf1⟩
   case round =>
    obtain ⟨i, b, rfl, hi, rfl, rfl, hb, HF⟩ := hrel
    cases gk with
    | zero =>
      have hil : ¬ (i : Int) < (cs.length : Int) := (by omega); have hti : cs.take i = cs := List.take_of_length_le (by omega); rw [hti] at hb; have HB := H_ hb; clear hb
      have hvo : SlR wr 10 opC (if b then va else vb) (branch S cs la lb) := by
       rw [HBR.out, ← HB.out]; cases b
       · exact HVB.out.fr0 HF.out
       · exact HVA.out.fr0 HF.out
      have hoF : 0 < (branch S cs la lb).length → ∀ k, (if b then va else vb).ownBlock = some k → ¬ F k := by
       rw [HBR.out, ← HB.out]; cases b
       · exact HBF.out
       · exact HAF.out
      have HAPP := H_ (HAP.out wr HF.out _ hvo hoF); clear hvo hoF HAP HHO HCH; generalize (if b then va else vb) = vo at *; have hsz := HF.out.size; have HSZ := H_ hsz; clear hsz; by_cases hz : RE = 0
      · subst hz
        simp only [if_true] at HAPP; go_wp2_with (go_at_call 37; refine HAPP.out.mono ?_; rintro e w2 ⟨av, ev, rfl, F', Z, h1, h2, h3, h4, h5, h6, h7, h8⟩)
        (try simp only [Exit.inBlock, Exit.then]); refine bodyPost_ret (zbr rfl _ _ _) rfl ?_
        have hsz := HSZ.out; unfold RunRE; refine ⟨av, ev, by rw [← HB.out]; rfl, F', Z, h1, h2, h3, h4, (HF.out.mono fun _ _ h => h.elim).trans h5 fun _ _ h => h, fun k hk => ?_, fun k hk => ?_, fun k hk => ?_⟩
        · rcases h6 k hk with h | h
          · exact .inl h
          · exact .inr (by omega)
        · have := h7 k hk; exact ⟨by omega, this.2⟩
        · have := h8 k hk; exact ⟨by omega, this.2⟩
      · have hz' : (RE == 0) = false := beq_eq_false_iff_ne.2 hz
        have hzd : decide (RE = 0) = false := decide_eq_false hz; simp only [if_neg hz] at HAPP; go_wp2_with (go_at_call 37; refine HAPP.out.mono ?_; rintro e w2 ⟨av, ev, rfl, F', Z, h1, h2, h3, h4, h5, h6, h7, h8⟩)
        (try simp only [Exit.inBlock, Exit.then]); refine bodyPost_ret (zbr rfl _ _ _) rfl ?_
        have hsz := HSZ.out; unfold RunRE; simp only [if_neg hz, hzd]; refine ⟨_, _, rfl, F', [], h1, AnsR.nil _, rfl, SlF.nil _ _ _ _, (HF.out.mono fun _ _ h => h.elim).trans h5 fun _ _ h => h, fun k hk => ?_, fun k hk => by simp [Value.ownBlock] at hk, fun k hk => ?_⟩
        · rcases h6 k hk with h | h
          · exact .inl h
          · exact .inr (by omega)
        · rcases hk with hb | ⟨i, q, hq, _⟩
          · simp [Value.ownBlock] at hb
          · simp at hq
    | succ g =>
      obtain ⟨gb, go, rfl⟩ := HA.out (by omega); obtain ⟨p, hx⟩ : ∃ p, cs[i]? = some p := ⟨_, List.getElem?_eq_getElem (by omega)⟩; have hvr := HV.out.fr0 HF.out; have x0 := hvr.cell0 zav i hx rfl; have x1 := hvr.cell zav i 1 hx rfl; have x2 := hvr.cell zav i 2 hx rfl; have x3 := hvr.cell zav i 3 hx rfl; have x4 := hvr.cell zav i 4 hx rfl; have hil : (i : Int) < (cs.length : Int) := (by omega); have hcw := fun W (h : Fr No w W) => HHO.out W h p (List.mem_of_getElem? hx); unfold cmpV at hcw; have HCW := H_ hcw
      have hnx : allB S (cs.take (i + 1)) = (b && holdsB S p) := by
       rw [hb]; unfold allB; rw [List.take_add_one, hx, List.all_append]; simp
      have HNX := H_ hnx; clear hvr hx hcw hnx hb; generalize holdsB S p = hp at *; cases hp
      · go_wp2_with (go_at_call 31; refine (HCW.out _ (HF.out.alloc _)).mono ?_; rintro e w2 ⟨rfl, hf2⟩)
        go_roundg g
        case rel => exact ⟨i + 1, false, by go_num, by omega, rfl, rfl, by rw [HNX.out]; simp, H_ ((HF.out.alloc _).trans0 hf2)⟩
        case measure => omega
      · cases b
        · go_wp2_with (go_at_call 31; refine (HCW.out _ (HF.out.alloc _)).mono ?_; rintro e w2 ⟨rfl, hf2⟩)
          go_roundg g
          case rel => exact ⟨i + 1, false, by go_num, by omega, rfl, rfl, by rw [HNX.out]; simp, H_ ((HF.out.alloc _).trans0 hf2)⟩
          case measure => omega
        · go_wp2_with (go_at_call 31; refine (HCW.out _ (HF.out.alloc _)).mono ?_; rintro e w2 ⟨rfl, hf2⟩)
          go_roundg g
          case rel => exact ⟨i + 1, true, by go_num, by omega, rfl, rfl, by rw [HNX.out]; simp, H_ ((HF.out.alloc _).trans0 hf2)⟩
          case measure => omega
 · have hre : runE S cs la lb = txnE cs la lb := by unfold runE; rw [if_pos hE]
   have hnz : runE S cs la lb ≠ 0 := (by rw [hre]; exact hE)
   show Calls Tryz.prog 33 _ w (RunRE TA s S F cs (branch S cs la lb) (runE S cs la lb) w)
   rw [hre]; have hnb : (txnE cs la lb == 0) = false := beq_eq_false_iff_ne.2 hE; generalize txnE cs la lb = te at *; have HCH := H_ hch; have HS := H_ hS; have HE := H_ hE; obtain ⟨a, cap, rfl, _, _, _⟩ := hv.shape; obtain ⟨aa, acap, rfl, _, _, _⟩ := hva.shape; obtain ⟨ab, bcap, rfl, _, _, _⟩ := hvb.shape; clear hv hva hvb hch hS haF hbF hks hka hkb h hre hnz hE; go_enter Tryz.func33, Tryz.ntmps33; go_wp2_with (go_at_call 38; refine (HCH.out _ (Fr.refl No w)).mono ?_; rintro e w1 ⟨rfl, hf1⟩)
   (try simp only [Exit.inBlock, Exit.then]); refine bodyPost_ret (zbr rfl _ _ _) rfl ?_
   have hzd : decide (te = 0) = false := decide_eq_false HE.out; unfold RunRE; simp only [if_neg HE.out, hzd]; refine ⟨_, _, rfl, F, [], HS.out.fr0 hT hf1, AnsR.nil _, rfl, SlF.nil _ _ _ _, hf1.mono fun _ _ h => h.elim, fun b h => .inl h, fun b hb => by simp [Value.ownBlock] at hb, fun b hb => ?_⟩; rcases hb with hb | ⟨i, q, hq, _⟩
   · simp [Value.ownBlock] at hb
   · simp at hq
end Go.Proofs.YthljnnjpmdgkoaaGreat