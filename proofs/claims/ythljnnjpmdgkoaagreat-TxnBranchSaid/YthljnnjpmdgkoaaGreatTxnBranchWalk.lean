/- The statement TxnBranch's function returns true, whatever its arguments are. -/
import Derived.Test.YthljnnjpmdgkoaaGreatG13
import Derived.Test.YthljnnjpmdgkoaaGreatG30
import Derived.Test.YthljnnjpmdgkoaaGreatG31
import Derived.Test.YthljnnjpmdgkoaaGreatG39
namespace Go.Proofs.YthljnnjpmdgkoaaGreat
open Go Go.Proofs Go.RowKit
set_option maxRecDepth 100000
theorem CalR.fr0' {w w' : World} {v : Value} {Z : List CalQ} (h : CalR w v Z) (hf : Fr No w w') : CalR w' v Z := ⟨h.sl.fr0 hf, fun i q hq => (h.ops i q hq).fr0 hf, fun i q hq => (h.keys i q hq).fr0 hf⟩
theorem zmh {cs : List Cmp} {la lb : List Opr} (h : fewTxn cs la lb = true) : cs.length ≤ 30 ∧ la.length ≤ 30 ∧ lb.length ≤ 30 ∧ (∀ c ∈ cs, c.key.size ≤ 3000) ∧ (∀ o ∈ la, o.rg.key.size ≤ 3000) ∧ (∀ o ∈ lb, o.rg.key.size ≤ 3000) := by
 unfold fewTxn zbc fewCal fewOps fewCmp fewOp at h; simp only [Bool.and_eq_true, decide_eq_true_eq, List.all_eq_true, List.mem_cons, List.not_mem_nil, or_false, forall_eq_or_imp, forall_eq] at h; obtain ⟨⟨h1, _, ha, hb⟩, hc⟩ := h; exact ⟨h1, ha.1.1.1.1.1, hb.1.1.1.1.1, fun c h => (hc c h).1, fun o h => (ha.1.1.1.1.2 o h).1.1, fun o h => (hb.1.1.1.1.2 o h).1.1⟩
def DoneS (TA : zao) (S : St) (D : Doc) (w : World) (e : Ending) (w' : World) : Prop := ∃ s a1 c1 a2 c2 b, e = .returned (.tuple #[.pointer (some ⟨s, 0, none⟩), docV D (.slice a1 D.kvs.length c1) (.slice a2 D.events.length c2), .bool b]) ∧
 SlF w' 99 6 kvC (.slice a1 D.kvs.length c1) D.kvs ∧ SlF w' 101 13 evC (.slice a2 D.events.length c2) D.events ∧ (b = true ↔ zbh D) ∧
 ∃ F, zaj TA w' s S F ∧ Fr No w w' ∧ (∀ b, F b → w.heap.size ≤ b) ∧ (∀ b, (Value.slice a1 D.kvs.length c1).ownBlock = some b → ¬ F b ∧ w.heap.size ≤ b) ∧ (∀ b, (Value.slice a2 D.events.length c2).ownBlock = some b → ¬ F b ∧ w.heap.size ≤ b)
theorem ztq {S : St} {cs : List Cmp} {i : Nat} {p : Cmp} (h : cs[i]? = some p) : allB S (cs.take (i + 1)) = (allB S (cs.take i) && holdsB S p) := by
 unfold allB; rw [List.take_add_one, h, List.all_append]; simp
theorem zrg {k : Nat} {S : St} {D : Doc} (h : Good k S D) (hk : k ≤ 70) {ops : List Opr} (hc : checkE ops = 0) (hks : ∀ o ∈ ops, o.rg.key.size ≤ 1099511627776) : (applyD S D ops).rev ≤ D.rev + 1 := by
 obtain ⟨⟨a, _⟩, _⟩ := h.runs hk hc hks ops.length (Nat.le_refl _); rw [List.take_length] at a; exact a.rev.2
set_option maxHeartbeats 16000000 in
theorem zit {TA : zao} (hT : TreeOk TA 1000000) (hTD : TreeDl TA) (w : World) (v v1 va vb : Value) (l : List CalQ) (cs : List Cmp) (la lb : List Opr) (hv : CalR w v l) (h1 : SlR w 5 cmpC v1 cs) (ha : SlR w 10 opC va la) (hb : SlR w 10 opC vb lb) :
 Calls Tryz.prog 8 #[v, .agg #[v1, va, vb]] w fun e w' => e = .returned (.bool true) ∧ Fr No w w' := by
 obtain ⟨xa, xcap, hve, _, _, _⟩ := hv.sl.shape; obtain ⟨c0, ccap, hce, _, _, hcz⟩ := h1.shape; obtain ⟨oa, ocap, hoe, _, _, _⟩ := ha.shape; obtain ⟨pa, pcap, hpe, _, _, _⟩ := hb.shape; have hfc := fun W (h : Fr No w W) => zea W v l (hv.fr0' h); have hft := fun W (h : Fr No w W) => zhc W v1 va vb cs la lb (h1.fr0 h) (ha.fr0 h) (hb.fr0 h); have hdn := fun (hf : zbc l = true) W (hW : Fr No w W) => zfu hT hTD W v l (hv.fr0' hW) hf (zpr hf); have halt : 0 < la.length → ∀ b, va.ownBlock = some b → b < w.heap.size := fun h => ha.lt zag (by decide) h; have hblt : 0 < lb.length → ∀ b, vb.ownBlock = some b → b < w.heap.size := fun h => hb.lt zag (by decide) h; subst hve hce hoe hpe; have H1 := H_ h1; have HA := H_ ha; have HB := H_ hb; have HCZ := H_ hcz; have HFC := H_ hfc; have HFT := H_ hft; have HDN := H_ hdn; have HALT := H_ halt; have HBLT := H_ hblt
 clear hv h1 ha hb hcz hfc hft hdn halt hblt; have hb1 := zad w (Obj.cells #[.slice c0 cs.length ccap, .slice oa la.length ocap, .slice pa lb.length pcap] 57) _ rfl; have hf1 : Fr No w (w.alloc (Obj.cells #[.slice c0 cs.length ccap, .slice oa la.length ocap, .slice pa lb.length pcap] 57)) := (Fr.refl No w).alloc _; have HB1 := H_ hb1; have HF1 := H_ hf1; clear hb1 hf1
 cases hfl : zbc l with
 | false =>
   rw [hfl] at HFC; clear hfl HDN; go_enter Tryz.func8, Tryz.ntmps8
   go_wp2_with (first
    | (go_at_call 15; with_reducible refine (HFC.out _ HF1.out).mono ?_; rintro e w2 ⟨rfl, rfl⟩)
    | (go_at_call 29; refine (zba hT _).mono ?_; rintro e w3 ⟨rfl, hf3⟩))
   go_ret; exact ⟨rfl, HF1.out.trans0 hf3⟩
 | true =>
   have HFL := H_ hfl; rw [hfl] at HFC; clear hfl
   cases hfb : fewTxn cs la lb with
   | false =>
     rw [hfb] at HFT; clear hfb HDN; go_enter Tryz.func8, Tryz.ntmps8
     go_wp2_with (first
      | (go_at_call 15; with_reducible refine (HFC.out _ HF1.out).mono ?_; rintro e w2 ⟨rfl, rfl⟩)
      | (go_at_call 28; with_reducible refine (HFT.out _ HF1.out).mono ?_; rintro e w3 ⟨rfl, hf3⟩)
      | (go_at_call 29; refine (zba hT _).mono ?_; rintro e w4 ⟨rfl, hf4⟩))
     go_ret; exact ⟨rfl, (HF1.out.trans0 hf3).trans0 hf4⟩
   | true =>
     obtain ⟨n1, n2, n3, k1, k2, k3⟩ := zmh hfb; rw [hfb] at HFT; clear hfb; have hG := zcr HFL.out l.length (Nat.le_refl _); have hl30 := (zbj HFL.out).1; have hdn : ∀ W, Fr No w W → Calls Tryz.prog 30 #[.slice xa l.length xcap] W (DoneS TA (donesT l l.length).1 (donesT l l.length).2 W) := fun W hW => HDN.out HFL.out W hW; clear HDN; generalize donesT l l.length = SD at hG hdn; obtain ⟨S, D⟩ := SD; dsimp only at hG hdn; have hrev := hG.rev; have hm0 := hG.cpl.m0; have hsz := hG.size
     have hrun := fun W s F (hS : zaj TA W s S F) (hW : Fr No w W) (hnF : ∀ b, F b → w.heap.size ≤ b) => zoq hT hG (by omega) W s F hS _ _ _ cs la lb (H1.out.fr0 hW) (HA.out.fr0 hW) (HB.out.fr0 hW)
      (fun h b hb hF => by have := HALT.out h b hb; have := hnF b hF; omega) (fun h b hb hF => by have := HBLT.out h b hb; have := hnF b hF; omega) n1 n2 n3 k1 k2 k3
     have hhol := fun W s F (hS : zaj TA W s S F) c (hc : c ∈ cs) => zmt hT (n := 20000 * l.length) (by omega) W s S F hS hG.ok (by omega) (by omega) c (by have := k1 c hc; omega); have hap := fun (o : Bool) W s F (hS : zaj TA W s S F) vo (hvo : SlR W 10 opC vo (if o then la else lb)) (hoF : 0 < (if o then la else lb).length → ∀ b, vo.ownBlock = some b → ¬ F b) => zfc hT hG (by omega) W s F hS vo (if o then la else lb) hvo hoF (by cases o <;> assumption) (by cases o <;> assumption); have hst0 := fun W s F (hS : zaj TA W s S F) => zfb hT hG (by omega) W s F hS
     have hgood1 : ∀ o : Bool, applyE S (if o then la else lb) = 0 → Good (l.length + 1) (applyS S (if o then la else lb)) (applyD S D (if o then la else lb)) ∧ (applyD S D (if o then la else lb)).rev ≤ D.rev + 1 := fun o h0 => by
      have hks : ∀ x ∈ (if o then la else lb), x.rg.key.size ≤ 1099511627776 := fun x hx => by
       cases o
       · have := k3 x hx; omega
       · have := k2 x hx; omega
      exact ⟨hG.apply (by omega) (zbe h0).1 hks, zrg hG (by omega) (zbe h0).1 hks⟩
     have hst1 : ∀ o : Bool, applyE S (if o then la else lb) = 0 → ∀ W s F, zaj TA W s (applyS S (if o then la else lb)) F → _ := fun o h0 W s F hS => zfb hT (hgood1 o h0).1 (by omega) W s F hS; have hrvz : (0 : Int) ≤ D.rev ∧ D.rev ≤ 70 := ⟨by omega, by have := hG.rev1; omega⟩
     have hkl : D.kvs.length ≤ 1000000 ∧ D.events.length ≤ 100000000 := by
      refine ⟨?_, ?_⟩
      · rw [← zfx hG]
        unfold zam; exact Nat.le_trans (List.length_filterMap_le _ _) (by omega)
      · have := hG.ok.ev; rw [hG.cpl.events] at this; omega
     have hkl1 : ∀ o : Bool, applyE S (if o then la else lb) = 0 → (applyD S D (if o then la else lb)).kvs.length ≤ 1000000 ∧ (applyD S D (if o then la else lb)).events.length ≤ 100000000 ∧ 0 ≤ (applyD S D (if o then la else lb)).rev := fun o h0 => by
      obtain ⟨g, _⟩ := hgood1 o h0; have gs := g.size; refine ⟨?_, ?_, ?_⟩
      · rw [← zfx g]
        unfold zam; exact Nat.le_trans (List.length_filterMap_le _ _) (by omega)
      · have := g.ok.ev; rw [g.cpl.events] at this; omega
      · have := g.cpl.m0; omega
     have hmap : ∀ (o : Bool), (runR (S.rev + 1) ⟨S, [], []⟩ (if o then la else lb)).A.length ≤ 30 := fun o => by
      have key : ∀ (ops : List Opr) (r : Run), (runR (S.rev + 1) r ops).A.length = r.A.length + ops.length := by
       intro ops
       induction ops with
       | nil => intro r; rfl
       | cons x ops ih =>
         intro r
         show (runR (S.rev + 1) (stepR (S.rev + 1) r x) ops).A.length = _
         rw [ih, zrx, List.length_cons]; omega
      rw [key]; cases o
      · simpa using n3
      · simpa using n2
     have hevl : ∀ o : Bool, applyE S (if o then la else lb) = 0 → (runR (S.rev + 1) ⟨S, [], []⟩ (if o then la else lb)).E.length ≤ 100000000 := fun o h0 => by
      have h2 := (hkl1 o h0).2.1; unfold applyD at h2; rw [(Doc.adds_parts D _).2.2, List.length_append] at h2; rw [hrev]; omega
     have HRUN := H_ hrun; have HHOL := H_ hhol; have HAP := H_ hap; have HST0 := H_ hst0; have HST1 := H_ hst1; have HGD1 := H_ hgood1; have HDN := H_ hdn; have HKL := H_ hkl; have HKL1 := H_ hkl1; have HMAP := H_ hmap; have HEVL := H_ hevl; have HRVZ := H_ hrvz; have HBR : Hid (branch S cs la lb = if allB S cs then la else lb) := H_ rfl
     have HRE : Hid (runE S cs la lb = 0 → applyE S (branch S cs la lb) = 0) := H_ fun h => by
      unfold runE at h
      split at h
      · rename_i hn; exact absurd h hn
      · exact h
     clear hrun hhol hap hst0 hst1 hgood1 hdn hkl hkl1 hmap hevl hrvz hrev hm0 hsz hG k1 k2 k3; go_enter Tryz.func8, Tryz.ntmps8
     go_upto_region 3 with (first
      | (go_at_call 15; with_reducible refine (HFC.out _ HF1.out).mono ?_; rintro e w2 ⟨rfl, rfl⟩)
      | (go_at_call 28; with_reducible refine (HFT.out _ HF1.out).mono ?_; rintro e w3 ⟨rfl, hf3⟩))
     have HW3 := H_ (HF1.out.trans0 hf3); have HC3 := H_ (hf3.heap HB1.out id); clear hf3; go_upto_region 4 with (go_at_call 30; (with_reducible refine (HDN.out _ HW3.out).mono ?_); rintro e w4 ⟨s, a1, c1, a2, c2, b1, rfl, hk4, he4, _, F, hs4, hf4, hn4, hnk4, hne4⟩; unfold docV); have hz3 := HW3.out.size; have hz4 := hf4.size; have hF4 := hs4.lt hT; have hW5 : Fr No w4 (w4.alloc (Obj.cells #[.int .i64 D.rev, .int .i64 D.mark, .slice a1 D.kvs.length c1, .slice a2 D.events.length c2] 30)) := (Fr.refl No w4).alloc _; have hb6 := zad w4 (Obj.cells #[.int .i64 D.rev, .int .i64 D.mark, .slice a1 D.kvs.length c1, .slice a2 D.events.length c2] 30) _ rfl; have hz5 : w4.heap.size < (w4.alloc (Obj.cells #[.int .i64 D.rev, .int .i64 D.mark, .slice a1 D.kvs.length c1, .slice a2 D.events.length c2] 30)).heap.size := (by simp)
     generalize w4.alloc (Obj.cells #[.int .i64 D.rev, .int .i64 D.mark, .slice a1 D.kvs.length c1, .slice a2 D.events.length c2] 30) = W5 at *; generalize w4.heap.size = b6 at *; have HW5 := H_ ((HW3.out.trans0 hf4).trans0 hW5); have HB6 := H_ hb6; have HC5 := H_ (hW5.heap (hf4.heap HC3.out id) id); have HS5 := H_ (hs4.fr0 hT hW5); have HK5 := H_ (hk4.fr0 hW5); have HE5 := H_ (he4.fr0 hW5); have hlt3 := zaa HC3.out; have HF5 : Hid (∀ b, F b → w.heap.size < b ∧ b < b6) := H_ fun b hb => by have := hn4 b hb; have := hF4 b hb; omega
     have HNK := H_ hnk4; have HNE := H_ hne4; have hw5z : w.heap.size ≤ b6 := (by omega); clear hs4 hf4 hn4 hnk4 hne4 hk4 he4 hW5 hb6 hF4 HC3 HW3 hz3 hz4 hlt3; go_upto_region 5 with (go_at_call 30; (with_reducible refine (HDN.out _ HW5.out).mono ?_); rintro e w6 ⟨s2, a3, c3, a4, c4, b2, rfl, _, _, _, F2, hs6, hf6, hn6, _, _⟩; unfold docV); have hz6 := hf6.size; have hF6 := hs6.lt hT; have hW7 : Fr No w6 (w6.alloc (Obj.cells #[.int .i64 D.rev, .int .i64 D.mark, .slice a3 D.kvs.length c3, .slice a4 D.events.length c4] 30)) := (Fr.refl No w6).alloc _; have hz7 : w6.heap.size < (w6.alloc (Obj.cells #[.int .i64 D.rev, .int .i64 D.mark, .slice a3 D.kvs.length c3, .slice a4 D.events.length c4] 30)).heap.size := (by simp); generalize w6.alloc (Obj.cells #[.int .i64 D.rev, .int .i64 D.mark, .slice a3 D.kvs.length c3, .slice a4 D.events.length c4] 30) = W7 at *; have h57 := hf6.trans0 hW7
     have HW7 := H_ (HW5.out.trans0 h57); have HB7 := H_ (h57.heap HB6.out id); have HC7 := H_ (h57.heap HC5.out id); have HS7 := H_ (HS5.out.fr0 hT h57); have HK7 := H_ (HK5.out.fr0 h57); have HE7 := H_ (HE5.out.fr0 h57); have HT7 := H_ (hs6.fr0 hT hW7); have HF7 : Hid (∀ b, F2 b → b6 < b ∧ b < W7.heap.size) := H_ fun b hb => by have := hn6 b hb; have := hF6 b hb; omega
     have hz7' : b6 < W7.heap.size := (by omega); clear hs6 hf6 hn6 hF6 hW7 h57 HW5 HB6 HC5 HS5 HK5 HE5 hz5 hz6 hz7 HDN HFC HFT; go_wp2
     go_loopg [11, 12] cs.length (fun g s11 s12 wr => ∃ (i : Nat) (b : Bool), s11 = .bool b ∧ s12 = .int .i64 i ∧ i + g = cs.length ∧ b = allB S (cs.take i) ∧ Hid (Fr No W7 wr))
     case atStart => exact ⟨0, true, rfl, rfl, by simp, rfl, H_ (Fr.refl No W7)⟩
     case round =>
      obtain ⟨i, b, rfl, rfl, hi, hba, HF⟩ := hrel; have hc := HF.out.heap HC7.out id; have x0 := cellAt hc 0 rfl; have x1 := cellAt hc 1 rfl; have x2 := cellAt hc 2 rfl; have lx := zaa hc
      cases gk with
      | zero =>
        have hil : ¬ (i : Int) < (cs.length : Int) := (by omega); have hti : cs.take i = cs := List.take_of_length_le (by omega); rw [hti] at hba; have hrun := HRUN.out wr s F (HS7.out.fr0 hT HF.out) (HW7.out.trans0 HF.out) (fun b hb => Nat.le_of_lt (HF5.out b hb).1); unfold RunR RunRE at hrun; rw [HBR.out, ← hba] at hrun; have hre := HRE.out; rw [HBR.out, ← hba] at hre; have HRE' := H_ hre; have hzr := HF.out.size; have HC := H_ hc; clear hba hti hre HRE HBR HRUN HHOL hc; generalize runE S cs la lb = RE at *; by_cases hz : RE = 0
        · subst hz
          have he0 := HRE'.out rfl; simp only [if_true, decide_true, Bool.true_and] at hrun; have HRU := H_ hrun; have HE0 := H_ he0; clear hrun HRE'
          cases b with
          | true =>
            have hst1 := HST1.out true HE0.out; have hkl1 := HKL1.out true HE0.out; have hgd1 := (HGD1.out true HE0.out).2; have hmp := HMAP.out true; have hel := HEVL.out true HE0.out; have hap := HAP.out true; rw [HE0.out] at hap; simp only [if_true] at HRU HE0 hst1 hkl1 hgd1 hmp hel hap; generalize applyD S D la = D' at *; generalize hSS : applyS S la = S' at *; have HAPP := H_ hap; have HST := H_ hst1; have HKL2 := H_ hkl1; clear hap hst1 hkl1 HAP HST1 HKL1 HGD1 HMAP HEVL hSS; go_upto_region 12 with (go_at_call 33; refine HRU.out.mono ?_; rintro e w8 ⟨av, ev, rfl, F', Z, h1, h2, h3, h4, h5, h6, h7, h8⟩); have hz8 := h5.size; have hF8 := h1.lt hT; have HS8 := H_ h1; have h78 : Fr F W7 w8 := (HF.out.mono fun _ _ h => h.elim).trans h5 fun _ _ h => h; have HB8 := H_ (h78.heap HB7.out fun h => by have := HF5.out _ h; omega)
            have HC8 := H_ (h78.heap HC7.out fun h => by have := HF5.out _ h; omega); have HW8 : Hid (Fr No w w8) := H_ (HW7.out.trans h78 fun b hb h => by have := HF5.out b h; omega); have HT8 := H_ (HT7.out.fr hT h78 fun b hb h => by have := HF5.out b h; have := HF7.out b hb; omega); have HZ8 := H_ h3; have HA8 := H_ h2; have HV8 := H_ h4; have hov : ∀ b, F2 b → b < wr.heap.size := fun b hb => by have := HF7.out b hb; omega
            have HO8 : Hid (∀ b, ansF av Z b → ¬ F2 b) := H_ fun b hb h => by have := (h8 b hb).1; have := hov b h; omega
            have HP8 : Hid (∀ b, ev.ownBlock = some b → ¬ F2 b) := H_ fun b hb h => by have := (h7 b hb).1; have := hov b h; omega
            have hz8w : W7.heap.size ≤ w8.heap.size := h78.size; clear h1 h2 h3 h4 h5 h6 h7 h8 h78 x0 x1 x2 lx hov hF8
            go_upto_region 13 with (first
             | (go_at_call 23; with_reducible refine (HST.out _ _ _ HS8.out).mono ?_; rintro e w9 ⟨a7, c7, a8, c8, rfl, hk9, he9, hf9, hnk9, hne9⟩; unfold stateV)
             | (go_at_call 22; refine (zcg _ _ _ _ _ _ _ _ _).mono ?_; rintro e w10 ⟨rfl, hf10⟩; unfold stateV))
            have hz9 := hf9.size; have hz10 := hf10.size; have hWB : Fr No w10 (w10.alloc (Obj.cells #[.int .i64 D'.rev, .int .i64 D'.mark, .slice a7 D'.kvs.length c7, .slice a8 D'.events.length c8] 30)) := (Fr.refl No w10).alloc _; have hbB := zad w10 (Obj.cells #[.int .i64 D'.rev, .int .i64 D'.mark, .slice a7 D'.kvs.length c7, .slice a8 D'.events.length c8] 30) _ rfl; generalize w10.alloc (Obj.cells #[.int .i64 D'.rev, .int .i64 D'.mark, .slice a7 D'.kvs.length c7, .slice a8 D'.events.length c8] 30) = WB at *; generalize w10.heap.size = bB at *; have h8B := (hf9.trans0 hf10).trans0 hWB; have h9B := hf10.trans0 hWB; have hcB := h8B.heap HC8.out id; have x0 := cellAt hcB 0 rfl; have x1 := cellAt hcB 1 rfl; have x2 := cellAt hcB 2 rfl; have lx := zaa hcB; have HBB := H_ hbB; have HWB := H_ (HW8.out.trans0 h8B); have HKB := H_ (hk9.fr0 h9B); have HEB := H_ (he9.fr0 h9B)
            have HTB := H_ (HT8.out.fr0 hT h8B); have HB6B := H_ (h8B.heap HB8.out id); have HAB := H_ (HA8.out.fr h8B fun _ _ h => h.elim); have HVB := H_ (HV8.out.fr0 h8B); have HNKB : Hid (∀ b, (Value.slice a7 D'.kvs.length c7).ownBlock = some b → ¬ F2 b) := H_ fun b hb h => by have := hnk9 b hb; have := HF7.out b h; omega
            have HNEB : Hid (∀ b, (Value.slice a8 D'.events.length c8).ownBlock = some b → ¬ F2 b) := H_ fun b hb h => by have := hne9 b hb; have := HF7.out b h; omega
            have hbBz : W7.heap.size ≤ bB := (by omega); have hapc := HAPP.out WB s2 F2 HTB.out _ (HA.out.fr0 HWB.out) (fun hp b hb h => by have := HALT.out hp b hb; have := HF7.out b h; omega); have HAPC := H_ hapc; clear hapc HAPP hf9 hf10 hnk9 hne9 hk9 he9 h8B h9B hcB hbB hWB HB8 HC8 HW8 HT8 HA8 HV8 HS8; go_upto_region 19 with (go_at_call 37; (with_reducible refine HAPC.out.mono ?_); rintro e wC ⟨av2, ev2, rfl, F3, Z2, g1, g2, g3, g4, g5, g6, g7, g8⟩); have hbC := g5.heap HBB.out (fun h => by have := HF7.out _ h; omega); have h6C := g5.heap HB6B.out (fun h => by have := HF7.out _ h; omega); have HSC := H_ g1; have hAC := HAB.out.fr g5 fun b hb => HO8.out b hb; have hVC := HVB.out.fr g5 fun b hb => HP8.out b hb; have hKC := HKB.out.fr g5 fun b hb => HNKB.out b hb; have hEC := HEB.out.fr g5 fun b hb => HNEB.out b hb
            have HWC : Hid (Fr No w wC) := H_ (HWB.out.trans g5 fun b hb h => by have := HF7.out b h; omega); have hzz : Z.map (·.1) = Z2.map (·.1) := HZ8.out.trans g3.symm; have hzl : Z.length ≤ 30 := (by have := congrArg List.length HZ8.out; rw [List.length_map] at this; omega); obtain ⟨k0, k1, k2, k3⟩ := cells4 hbC; have k4 := cellAt h6C 0 rfl; have lnb := zaa hbC; have ln6 := zaa h6C; have HQ : Hid (∀ W, Fr No wC W → W.cell? ⟨bB, 0, none⟩ = some (.int .i64 D'.rev) ∧ W.cell? ⟨bB, 1, none⟩ = some (.int .i64 D'.mark) ∧ W.cell? ⟨bB, 2, none⟩ = some (.slice a7 D'.kvs.length c7) ∧ W.cell? ⟨bB, 3, none⟩ = some (.slice a8 D'.events.length c8) ∧ W.cell? ⟨b6, 0, none⟩ = some (.int .i64 D.rev)) := H_ fun W hW => ⟨hW.cell0 k0, hW.cell0 k1, hW.cell0 k2, hW.cell0 k3, hW.cell0 k4⟩
            have CA := H_ (fun W (hW : Fr No wC W) => zdi W av av2 Z Z2 (hAC.fr hW fun _ _ h => h.elim) (g2.fr hW fun _ _ h => h.elim) hzz (by omega)); have CV := H_ (fun W (hW : Fr No wC W) => zcn W ev ev2 _ (hVC.fr0 hW) (g4.fr0 hW) (by omega)); have HKC := H_ hKC; have HEC := H_ hEC; have hcp := fun W => zcg W D'.rev D'.mark; unfold stateV at hcp; have HCP := H_ hcp; obtain ⟨hrz1, hrz2⟩ := HRVZ.out; have hwr : IntKind.i64.wrap (D.rev + 1) = D.rev + 1 := (by rw [IntKind.wrap_i64]; omega); have hr2 := HKL2.out.2.2; have hrle : decide (D'.rev ≤ D.rev + 1) = true := decide_eq_true hgd1; have q1 := HQ.out _ (Fr.refl No wC); have q2 := HQ.out _ (Fr.refl No wC).drew; have C1 := H_ (CA.out _ (Fr.refl No wC).drew); clear hcp hAC hVC hKC hEC g1 g2 g3 g4 g5 g6 g7 g8 hzz hzl hbC h6C k0 k1 k2 k3 k4 x0 x1 x2 lx
            go_region_held3 (fun W => W.cell? ⟨bB, 0, none⟩ = some (.int .i64 D'.rev) ∧ W.cell? ⟨bB, 1, none⟩ = some (.int .i64 D'.mark) ∧ W.cell? ⟨bB, 2, none⟩ = some (.slice a7 D'.kvs.length c7) ∧ W.cell? ⟨bB, 3, none⟩ = some (.slice a8 D'.events.length c8) ∧ W.cell? ⟨b6, 0, none⟩ = some (.int .i64 D.rev))
             (first | with_reducible exact q1 | with_reducible exact q2 | with_reducible exact qa | with_reducible exact qb | with_reducible exact qc | with_reducible exact qd | with_reducible exact qe | with_reducible exact qf)
             (first
               | (go_at_call 35; (with_reducible refine C1.out.mono ?_); rintro e wa ⟨rfl, hfa⟩
                  have ha : Fr No wC wa := (Fr.refl No wC).drew.trans0 hfa; have qa := HQ.out _ ha; have C2 := H_ (CV.out wa ha); have HWA := H_ ha; clear hfa ha)
               | (go_at_call 36; (with_reducible refine C2.out.mono ?_); rintro e wb ⟨rfl, hfb⟩
                  have hb : Fr No wC wb := HWA.out.trans0 hfb; have qb := HQ.out _ hb; have C3 := H_ (HST.out wb s2 F3 (HSC.out.fr0 hT hb)); have HWBB := H_ hb; clear hfb hb)
               | (go_at_call 23; (with_reducible refine C3.out.mono ?_); rintro e wc ⟨a9, c9, a10, c10, rfl, hkc, hec, hfcc, _, _⟩; unfold stateV
                  have hc : Fr No wC wc := HWBB.out.trans0 hfcc; have qc := HQ.out _ hc; have C4 := H_ (HCP.out wc D'.kvs.length D'.events.length c9 c10 a9 a10); have HWCC := H_ hc; have HKK := H_ hkc; have HEE := H_ hec; clear hfcc hc hkc hec)
               | (go_at_call 22; (with_reducible refine C4.out.mono ?_); rintro e wd ⟨rfl, hfd⟩
                  have hd : Fr No wC wd := HWCC.out.trans0 hfd; have qd := HQ.out _ hd; have hsm := zgn wd D'.rev D'.mark _ _ _ _ D'.kvs D'.events (HKC.out.fr0 hd) (HKK.out.fr0 hfd) (HEC.out.fr0 hd) (HEE.out.fr0 hfd) (by have := HKL2.out; omega) (by have := HKL2.out; omega); unfold stateV at hsm; have C5 := H_ hsm; have HWD := H_ hd; clear hfd hd hsm)
               | (go_at_call 21; (with_reducible refine C5.out.mono ?_); rintro e we ⟨rfl, hfe⟩
                  have he : Fr No wC we := HWD.out.trans0 hfe; have qe := HQ.out _ he; have HWE := H_ he; clear hfe he)
               | (go_at_call 29; (with_reducible refine (zba hT _).mono ?_); rintro e wf ⟨rfl, hff⟩
                  have hf : Fr No wC wf := HWE.out.trans0 hff; have qf := HQ.out _ hf; have HWF := H_ hf; clear hff hf))
            all_goals
             go_wp2; go_ret; exact ⟨rfl, HWC.out.trans0 HWF.out⟩
          | false =>
            have hst1 := HST1.out false HE0.out; have hkl1 := HKL1.out false HE0.out; have hgd1 := (HGD1.out false HE0.out).2; have hmp := HMAP.out false; have hel := HEVL.out false HE0.out; have hap := HAP.out false; rw [HE0.out] at hap; simp only [Bool.false_eq_true, if_false] at HRU HE0 hst1 hkl1 hgd1 hmp hel hap; generalize applyD S D lb = D' at *; generalize hSS : applyS S lb = S' at *; have HAPP := H_ hap; have HST := H_ hst1; have HKL2 := H_ hkl1; clear hap hst1 hkl1 HAP HST1 HKL1 HGD1 HMAP HEVL hSS; go_upto_region 12 with (go_at_call 33; refine HRU.out.mono ?_; rintro e w8 ⟨av, ev, rfl, F', Z, h1, h2, h3, h4, h5, h6, h7, h8⟩); have hz8 := h5.size; have hF8 := h1.lt hT; have HS8 := H_ h1; have h78 : Fr F W7 w8 := (HF.out.mono fun _ _ h => h.elim).trans h5 fun _ _ h => h; have HB8 := H_ (h78.heap HB7.out fun h => by have := HF5.out _ h; omega)
            have HC8 := H_ (h78.heap HC7.out fun h => by have := HF5.out _ h; omega); have HW8 : Hid (Fr No w w8) := H_ (HW7.out.trans h78 fun b hb h => by have := HF5.out b h; omega); have HT8 := H_ (HT7.out.fr hT h78 fun b hb h => by have := HF5.out b h; have := HF7.out b hb; omega); have HZ8 := H_ h3; have HA8 := H_ h2; have HV8 := H_ h4; have hov : ∀ b, F2 b → b < wr.heap.size := fun b hb => by have := HF7.out b hb; omega
            have HO8 : Hid (∀ b, ansF av Z b → ¬ F2 b) := H_ fun b hb h => by have := (h8 b hb).1; have := hov b h; omega
            have HP8 : Hid (∀ b, ev.ownBlock = some b → ¬ F2 b) := H_ fun b hb h => by have := (h7 b hb).1; have := hov b h; omega
            have hz8w : W7.heap.size ≤ w8.heap.size := h78.size; clear h1 h2 h3 h4 h5 h6 h7 h8 h78 x0 x1 x2 lx hov hF8
            go_upto_region 13 with (first
             | (go_at_call 23; with_reducible refine (HST.out _ _ _ HS8.out).mono ?_; rintro e w9 ⟨a7, c7, a8, c8, rfl, hk9, he9, hf9, hnk9, hne9⟩; unfold stateV)
             | (go_at_call 22; refine (zcg _ _ _ _ _ _ _ _ _).mono ?_; rintro e w10 ⟨rfl, hf10⟩; unfold stateV))
            have hz9 := hf9.size; have hz10 := hf10.size; have hWB : Fr No w10 (w10.alloc (Obj.cells #[.int .i64 D'.rev, .int .i64 D'.mark, .slice a7 D'.kvs.length c7, .slice a8 D'.events.length c8] 30)) := (Fr.refl No w10).alloc _; have hbB := zad w10 (Obj.cells #[.int .i64 D'.rev, .int .i64 D'.mark, .slice a7 D'.kvs.length c7, .slice a8 D'.events.length c8] 30) _ rfl; generalize w10.alloc (Obj.cells #[.int .i64 D'.rev, .int .i64 D'.mark, .slice a7 D'.kvs.length c7, .slice a8 D'.events.length c8] 30) = WB at *; generalize w10.heap.size = bB at *; have h8B := (hf9.trans0 hf10).trans0 hWB; have h9B := hf10.trans0 hWB; have hcB := h8B.heap HC8.out id; have x0 := cellAt hcB 0 rfl; have x1 := cellAt hcB 1 rfl; have x2 := cellAt hcB 2 rfl; have lx := zaa hcB; have HBB := H_ hbB; have HWB := H_ (HW8.out.trans0 h8B); have HKB := H_ (hk9.fr0 h9B); have HEB := H_ (he9.fr0 h9B)
            have HTB := H_ (HT8.out.fr0 hT h8B); have HB6B := H_ (h8B.heap HB8.out id); have HAB := H_ (HA8.out.fr h8B fun _ _ h => h.elim); have HVB := H_ (HV8.out.fr0 h8B); have HNKB : Hid (∀ b, (Value.slice a7 D'.kvs.length c7).ownBlock = some b → ¬ F2 b) := H_ fun b hb h => by have := hnk9 b hb; have := HF7.out b h; omega
            have HNEB : Hid (∀ b, (Value.slice a8 D'.events.length c8).ownBlock = some b → ¬ F2 b) := H_ fun b hb h => by have := hne9 b hb; have := HF7.out b h; omega
            have hbBz : W7.heap.size ≤ bB := (by omega); have hapc := HAPP.out WB s2 F2 HTB.out _ (HB.out.fr0 HWB.out) (fun hp b hb h => by have := HBLT.out hp b hb; have := HF7.out b h; omega); have HAPC := H_ hapc; clear hapc HAPP hf9 hf10 hnk9 hne9 hk9 he9 h8B h9B hcB hbB hWB HB8 HC8 HW8 HT8 HA8 HV8 HS8; go_upto_region 19 with (go_at_call 37; (with_reducible refine HAPC.out.mono ?_); rintro e wC ⟨av2, ev2, rfl, F3, Z2, g1, g2, g3, g4, g5, g6, g7, g8⟩); have hbC := g5.heap HBB.out (fun h => by have := HF7.out _ h; omega); have h6C := g5.heap HB6B.out (fun h => by have := HF7.out _ h; omega); have HSC := H_ g1; have hAC := HAB.out.fr g5 fun b hb => HO8.out b hb; have hVC := HVB.out.fr g5 fun b hb => HP8.out b hb; have hKC := HKB.out.fr g5 fun b hb => HNKB.out b hb; have hEC := HEB.out.fr g5 fun b hb => HNEB.out b hb
            have HWC : Hid (Fr No w wC) := H_ (HWB.out.trans g5 fun b hb h => by have := HF7.out b h; omega); have hzz : Z.map (·.1) = Z2.map (·.1) := HZ8.out.trans g3.symm; have hzl : Z.length ≤ 30 := (by have := congrArg List.length HZ8.out; rw [List.length_map] at this; omega); obtain ⟨k0, k1, k2, k3⟩ := cells4 hbC; have k4 := cellAt h6C 0 rfl; have lnb := zaa hbC; have ln6 := zaa h6C; have HQ : Hid (∀ W, Fr No wC W → W.cell? ⟨bB, 0, none⟩ = some (.int .i64 D'.rev) ∧ W.cell? ⟨bB, 1, none⟩ = some (.int .i64 D'.mark) ∧ W.cell? ⟨bB, 2, none⟩ = some (.slice a7 D'.kvs.length c7) ∧ W.cell? ⟨bB, 3, none⟩ = some (.slice a8 D'.events.length c8) ∧ W.cell? ⟨b6, 0, none⟩ = some (.int .i64 D.rev)) := H_ fun W hW => ⟨hW.cell0 k0, hW.cell0 k1, hW.cell0 k2, hW.cell0 k3, hW.cell0 k4⟩
            have CA := H_ (fun W (hW : Fr No wC W) => zdi W av av2 Z Z2 (hAC.fr hW fun _ _ h => h.elim) (g2.fr hW fun _ _ h => h.elim) hzz (by omega)); have CV := H_ (fun W (hW : Fr No wC W) => zcn W ev ev2 _ (hVC.fr0 hW) (g4.fr0 hW) (by omega)); have HKC := H_ hKC; have HEC := H_ hEC; have hcp := fun W => zcg W D'.rev D'.mark; unfold stateV at hcp; have HCP := H_ hcp; obtain ⟨hrz1, hrz2⟩ := HRVZ.out; have hwr : IntKind.i64.wrap (D.rev + 1) = D.rev + 1 := (by rw [IntKind.wrap_i64]; omega); have hr2 := HKL2.out.2.2; have hrle : decide (D'.rev ≤ D.rev + 1) = true := decide_eq_true hgd1; have q1 := HQ.out _ (Fr.refl No wC); have q2 := HQ.out _ (Fr.refl No wC).drew; have C1 := H_ (CA.out _ (Fr.refl No wC).drew); clear hcp hAC hVC hKC hEC g1 g2 g3 g4 g5 g6 g7 g8 hzz hzl hbC h6C k0 k1 k2 k3 k4 x0 x1 x2 lx
            go_region_held3 (fun W => W.cell? ⟨bB, 0, none⟩ = some (.int .i64 D'.rev) ∧ W.cell? ⟨bB, 1, none⟩ = some (.int .i64 D'.mark) ∧ W.cell? ⟨bB, 2, none⟩ = some (.slice a7 D'.kvs.length c7) ∧ W.cell? ⟨bB, 3, none⟩ = some (.slice a8 D'.events.length c8) ∧ W.cell? ⟨b6, 0, none⟩ = some (.int .i64 D.rev))
             (first | with_reducible exact q1 | with_reducible exact q2 | with_reducible exact qa | with_reducible exact qb | with_reducible exact qc | with_reducible exact qd | with_reducible exact qe | with_reducible exact qf)
             (first
               | (go_at_call 35; (with_reducible refine C1.out.mono ?_); rintro e wa ⟨rfl, hfa⟩
                  have ha : Fr No wC wa := (Fr.refl No wC).drew.trans0 hfa; have qa := HQ.out _ ha; have C2 := H_ (CV.out wa ha); have HWA := H_ ha; clear hfa ha)
               | (go_at_call 36; (with_reducible refine C2.out.mono ?_); rintro e wb ⟨rfl, hfb⟩
                  have hb : Fr No wC wb := HWA.out.trans0 hfb; have qb := HQ.out _ hb; have C3 := H_ (HST.out wb s2 F3 (HSC.out.fr0 hT hb)); have HWBB := H_ hb; clear hfb hb)
               | (go_at_call 23; (with_reducible refine C3.out.mono ?_); rintro e wc ⟨a9, c9, a10, c10, rfl, hkc, hec, hfcc, _, _⟩; unfold stateV
                  have hc : Fr No wC wc := HWBB.out.trans0 hfcc; have qc := HQ.out _ hc; have C4 := H_ (HCP.out wc D'.kvs.length D'.events.length c9 c10 a9 a10); have HWCC := H_ hc; have HKK := H_ hkc; have HEE := H_ hec; clear hfcc hc hkc hec)
               | (go_at_call 22; (with_reducible refine C4.out.mono ?_); rintro e wd ⟨rfl, hfd⟩
                  have hd : Fr No wC wd := HWCC.out.trans0 hfd; have qd := HQ.out _ hd; have hsm := zgn wd D'.rev D'.mark _ _ _ _ D'.kvs D'.events (HKC.out.fr0 hd) (HKK.out.fr0 hfd) (HEC.out.fr0 hd) (HEE.out.fr0 hfd) (by have := HKL2.out; omega) (by have := HKL2.out; omega); unfold stateV at hsm; have C5 := H_ hsm; have HWD := H_ hd; clear hfd hd hsm)
               | (go_at_call 21; (with_reducible refine C5.out.mono ?_); rintro e we ⟨rfl, hfe⟩
                  have he : Fr No wC we := HWD.out.trans0 hfe; have qe := HQ.out _ he; have HWE := H_ he; clear hfe he)
               | (go_at_call 29; (with_reducible refine (zba hT _).mono ?_); rintro e wf ⟨rfl, hff⟩
                  have hf : Fr No wC wf := HWE.out.trans0 hff; have qf := HQ.out _ hf; have HWF := H_ hf; clear hff hf))
            all_goals
             go_wp2; go_ret; exact ⟨rfl, HWC.out.trans0 HWF.out⟩
        · have hz' : (RE == 0) = false := beq_eq_false_iff_ne.2 hz
          have hz2 : (RE != 0) = true := (by rw [bne, hz']; rfl); have hzd : decide (RE = 0) = false := decide_eq_false hz; simp only [if_neg hz, hzd, Bool.false_and] at hrun; have HRU := H_ hrun; clear hrun HRE'; go_upto_region 12 with (go_at_call 33; refine HRU.out.mono ?_; rintro e w8 ⟨av, ev, rfl, F', Z, h1, h2, h3, h4, h5, _, _, _⟩); have hZ : Z = [] := (by simpa using h3); subst hZ; obtain ⟨a5, c5, hav⟩ : ∃ a c, av = .slice a 0 c := by obtain ⟨a, c, h, _⟩ := h2.sl.shape; exact ⟨a, c, h⟩
          obtain ⟨a6, c6, hev⟩ : ∃ a c, ev = .slice a 0 c := by obtain ⟨a, c, h, _⟩ := h4.shape; exact ⟨a, c, h⟩
          subst hav hev; have HS8 := H_ h1; have h78 : Fr F W7 w8 := (HF.out.mono fun _ _ h => h.elim).trans h5 fun _ _ h => h; have HK8 := H_ (HK7.out.fr h78 fun b hb => (HNK.out b hb).1); have HE8 := H_ (HE7.out.fr h78 fun b hb => (HNE.out b hb).1); have HB8 := H_ (h78.heap HB7.out fun h => by have := HF5.out _ h; omega); have HW8 : Hid (Fr No w w8) := H_ (HW7.out.trans h78 fun b hb h => by have := HF5.out b h; omega); clear h1 h2 h3 h4 h5 h78 x0 x1 x2 lx
          go_upto_region 13 with (first
           | (go_at_call 23; with_reducible refine (HST0.out _ _ _ HS8.out).mono ?_; rintro e w9 ⟨a7, c7, a8, c8, rfl, hk9, he9, hf9, _, _⟩; unfold stateV)
           | (go_at_call 22; refine (zcg _ _ _ _ _ _ _ _ _).mono ?_; rintro e w10 ⟨rfl, hf10⟩; unfold stateV))
          have hWB : Fr No w10 (w10.alloc (Obj.cells #[.int .i64 D.rev, .int .i64 D.mark, .slice a7 D.kvs.length c7, .slice a8 D.events.length c8] 30)) := (Fr.refl No w10).alloc _; have hbB := zad w10 (Obj.cells #[.int .i64 D.rev, .int .i64 D.mark, .slice a7 D.kvs.length c7, .slice a8 D.events.length c8] 30) _ rfl; generalize w10.alloc (Obj.cells #[.int .i64 D.rev, .int .i64 D.mark, .slice a7 D.kvs.length c7, .slice a8 D.events.length c8] 30) = WB at *; generalize w10.heap.size = bB at *; have h8B := (hf9.trans0 hf10).trans0 hWB; have h9B := hf10.trans0 hWB; have hb6 := h8B.heap HB8.out id; obtain ⟨y0, y1, y2, y3⟩ := cells4 hb6; obtain ⟨z0, z1, z2, z3⟩ := cells4 hbB; have ly := zaa hb6; have lz := zaa hbB; have hsm := zgn WB D.rev D.mark _ _ _ _ D.kvs D.events (HK8.out.fr0 h8B) (hk9.fr0 h9B) (HE8.out.fr0 h8B) (he9.fr0 h9B) (by have := HKL.out; omega) (by have := HKL.out; omega)
          unfold stateV at hsm; have HSM := H_ hsm; have HWB := H_ (HW8.out.trans0 h8B); clear hsm h8B h9B hk9 he9 hf9 hf10 hWB hb6 hbB
          go_wp2_with (first
           | (go_at_call 21; with_reducible refine HSM.out.mono ?_; rintro e w11 ⟨rfl, hf11⟩)
           | (go_at_call 29; refine (zba hT _).mono ?_; rintro e w12 ⟨rfl, hf12⟩))
          go_ret; exact ⟨rfl, (HWB.out.trans0 hf11).trans0 hf12⟩
      | succ g =>
        obtain ⟨gb, go, rfl⟩ := HCZ.out (by omega); obtain ⟨p, hx⟩ : ∃ p, cs[i]? = some p := ⟨_, List.getElem?_eq_getElem (by omega)⟩; have hvr := H1.out.fr0 (HW7.out.trans0 HF.out); have q0 := hvr.cell0 zav i hx rfl; have q1 := hvr.cell zav i 1 hx rfl; have q2 := hvr.cell zav i 2 hx rfl; have q3 := hvr.cell zav i 3 hx rfl; have q4 := hvr.cell zav i 4 hx rfl; have hil : (i : Int) < (cs.length : Int) := (by omega); have hcw := HHOL.out wr s F (HS7.out.fr0 hT HF.out) p (List.mem_of_getElem? hx); unfold cmpV at hcw; have HCW := H_ hcw; have hnx := ztq (S := S) hx; rw [← hba] at hnx; have HNX := H_ hnx; clear hvr hx hcw hnx hba hc; generalize holdsB S p = hp at *
        cases hp with
        | false =>
          go_wp2_with (go_at_call 31; (with_reducible refine HCW.out.mono ?_); rintro e w8 ⟨rfl, hf8⟩); go_roundg g
          case rel => exact ⟨i + 1, false, rfl, by go_num, by omega, by rw [HNX.out]; simp, H_ (HF.out.trans0 hf8)⟩
          case measure => omega
        | true =>
          go_wp2_with (go_at_call 31; (with_reducible refine HCW.out.mono ?_); rintro e w8 ⟨rfl, hf8⟩); go_roundg g
          case rel => exact ⟨i + 1, b, rfl, by go_num, by omega, by rw [HNX.out]; simp, H_ (HF.out.trans0 hf8)⟩
          case measure => omega
end Go.Proofs.YthljnnjpmdgkoaaGreat
