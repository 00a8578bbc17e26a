/- Lemmas for the claim. Conditions stand in each. -/
import Derived.Test.YthljnnjpmdgkoaaGreatG30
import Derived.Test.YthljnnjpmdgkoaaGreatG18
import Derived.Test.YthljnnjpmdgkoaaGreatG09
import Derived.Test.YthljnnjpmdgkoaaGreatG15
import Derived.Deep.RegionHeld3
namespace Go.Proofs.YthljnnjpmdgkoaaGreat
open Go Go.Proofs Go.RowKit
set_option maxRecDepth 100000
def runE (S : St) (cs : List Cmp) (la lb : List Opr) : Int := if txnE cs la lb ≠ 0 then txnE cs la lb else applyE S (branch S cs la lb)
theorem zgy {TA : zao} (hT : TreeOk TA 1000000) {k : Nat} {S : St} {D : Doc} (h : Good k S D) (hk : k ≤ 70) (w : World) (s : Nat) (F : Nat → Prop) (hS : zaj TA w s S F) (v : Value) (ops : List Opr) (hv : SlR w 10 opC v ops)
 (hvF : 0 < ops.length → ∀ b, v.ownBlock = some b → ¬ F b) (hl : ops.length ≤ 30) (hks : ∀ o ∈ ops, o.rg.key.size ≤ 3000) :
 Calls Tryz.prog 37 #[.pointer (some ⟨s, 0, none⟩), v] w fun e w' => ∃ av ev, e = .returned (.tuple #[av, ev, .int .i64 (applyE S ops)]) ∧ ∃ F' Z, zaj TA w' s (if applyE S ops = 0 then applyS S ops else S) F' ∧ AnsR w' av Z ∧
  Z.map (·.1) = (if applyE S ops = 0 then (runR (S.rev + 1) ⟨S, [], []⟩ ops).A else []) ∧ SlF w' 101 13 evC ev (if applyE S ops = 0 then (runR (S.rev + 1) ⟨S, [], []⟩ ops).E else []) ∧ Fr F w w' ∧ (∀ b, F' b → F b ∨ w.heap.size ≤ b) ∧
  (∀ b, ev.ownBlock = some b → w.heap.size ≤ b ∧ ¬ F' b) ∧ (∀ b, ansF av Z b → w.heap.size ≤ b ∧ ¬ F' b) := by
 have hr := h.rev; have hr1 := h.rev1; have hm0 := h.cpl.m0; by_cases he : applyE S ops = 0
 · obtain ⟨e1, e2⟩ := zbk he
   simp only [if_pos he]; rw [he]; refine (zij hT (n := 20000 * k + 20000) (by omega) w s S F hS v ops hv hvF (by omega) (fun o ho => by have := hks o ho; omega) (by unfold top; omega) (by unfold top; omega) e1 e2 fun i o ho => ?_); have hil := (List.getElem?_eq_some_iff.1 ho).1; rw [hr]; exact (h.runs hk e1 (fun o ho => by have := hks o ho; omega) i (by omega)).2 o ho
 simp only [if_neg he]
 refine (zmr hT w s S F hS v ops hv (by omega) (fun o ho => by have := hks o ho; omega) he).mono ?_; rintro e w' ⟨rfl, hf⟩; refine ⟨_, _, rfl, F, [], hS.fr0 hT hf, AnsR.nil _, rfl, SlF.nil _ _ _ _, hf.mono fun _ _ h => h.elim, fun b h => .inl h, fun b hb => by simp [Value.ownBlock] at hb, fun b hb => ?_⟩; rcases hb with hb | ⟨i, q, hq, _⟩
 · simp [Value.ownBlock] at hb
 simp at hq
def RunRE (TA : zao) (s : Nat) (S : St) (F : Nat → Prop) (cs : List Cmp) (br : List Opr) (RE : Int) (w : World) (e : Ending) (w' : World) : Prop :=
 ∃ av ev, e = .returned (.tuple #[.bool (decide (RE = 0) && allB S cs), av, ev, .int .i64 RE]) ∧ ∃ F' Z, zaj TA w' s (if RE = 0 then applyS S br else S) F' ∧ AnsR w' av Z ∧
  Z.map (·.1) = (if RE = 0 then (runR (S.rev + 1) ⟨S, [], []⟩ br).A else []) ∧ SlF w' 101 13 evC ev (if RE = 0 then (runR (S.rev + 1) ⟨S, [], []⟩ br).E else []) ∧ Fr F w w' ∧ (∀ b, F' b → F b ∨ w.heap.size ≤ b) ∧
  (∀ b, ev.ownBlock = some b → w.heap.size ≤ b ∧ ¬ F' b) ∧ (∀ b, ansF av Z b → w.heap.size ≤ b ∧ ¬ F' b)
def RunR (TA : zao) (s : Nat) (S : St) (F : Nat → Prop) (cs : List Cmp) (la lb : List Opr) (w : World) (e : Ending) (w' : World) : Prop := RunRE TA s S F cs (branch S cs la lb) (runE S cs la lb) w e w'
theorem zmu {TA : zao} {N : Nat} (hT : TreeOk TA N) {n : Nat} (hn : n ≤ 1099511627) (w : World) (s : Nat) (S : St) (F : Nat → Prop) (hS : zaj TA w s S F) (hok : StOk n S) (hN : S.T.length ≤ 1099511627) (hr0 : 0 ≤ S.rev) (c : Cmp)
 (hs : c.key.size ≤ 1099511627776) :
 Calls Tryz.prog 31 #[.pointer (some ⟨s, 0, none⟩), cmpV c] w fun e w' => e = .returned (.bool (holdsB S c)) ∧ Fr No w w' := by
 by_cases hE : cmpE c = 0
 · exact zim hT hn w s S F hS hok hN hr0 c hs hE
 have hb : holdsB S c = false := by unfold holdsB; rw [show (cmpE c == 0) = false from beq_eq_false_iff_ne.2 hE]; rfl
 rw [hb]; exact zmv w s c hs hE
set_option maxHeartbeats 4000000 in
theorem zuk {TA : zao} (hT : TreeOk TA 1000000) {k : Nat} {S : St} {D : Doc} (h : Good k S D) (hk : k ≤ 70) (w : World) (s : Nat) (F : Nat → Prop) (hS : zaj TA w s S F)
 (v va vb : Value) (cs : List Cmp) (la lb : List Opr) (hv : SlR w 5 cmpC v cs) (hva : SlR w 10 opC va la) (hvb : SlR w 10 opC vb lb)
 (haF : 0 < la.length → ∀ b, va.ownBlock = some b → ¬ F b) (hbF : 0 < lb.length → ∀ b, vb.ownBlock = some b → ¬ F b) (hlc : cs.length ≤ 30) (hla : la.length ≤ 30) (hlb : lb.length ≤ 30)
 (hks : ∀ c ∈ cs, c.key.size ≤ 3000) (hka : ∀ o ∈ la, o.rg.key.size ≤ 3000) (hkb : ∀ o ∈ lb, o.rg.key.size ≤ 3000) :
 Calls Tryz.prog 33 #[.pointer (some ⟨s, 0, none⟩), v, va, vb] w (RunR TA s S F cs la lb w) := by
 have hch := fun W (h : Fr No w W) => zfj W v va vb cs la lb (hv.fr0 h) (hva.fr0 h) (hvb.fr0 h) (by omega) (by omega) (by omega) (fun c h => by have := hks c h; omega) (fun o h => by have := hka o h; omega) (fun o h => by have := hkb o h; omega); by_cases hE : txnE cs la lb = 0
 · rw [hE] at hch
   have hre : runE S cs la lb = applyE S (branch S cs la lb) := (by unfold runE; rw [if_neg (by simp [hE])])
   have hap := fun W (hf : Fr No w W) (vo : Value) (ho : SlR W 10 opC vo (branch S cs la lb)) (hoF : 0 < (branch S cs la lb).length → ∀ b, vo.ownBlock = some b → ¬ F b) => zgy hT h hk W s F (hS.fr0 hT hf) vo (branch S cs la lb) ho hoF
    (by unfold branch; split <;> assumption) (by unfold branch; split <;> assumption)
   rw [← hre] at hap; have hsz := h.size; have hrv := h.rev; have hm0 := h.cpl.m0; have hho := fun W (hf : Fr No w W) c (hc : c ∈ cs) => zmu hT (n := 20000 * k) (by omega) W s S F (hS.fr0 hT hf) h.ok (by omega) (by omega) c (by have := hks c hc; omega); obtain ⟨a, cap, rfl, hc1, hc2, ha⟩ := hv.shape; have HV := H_ hv; have HA := H_ ha; have HCH := H_ hch; have HAP := H_ hap; have HHO := H_ hho; have HVA := H_ hva; have HVB := H_ hvb; have HAF := H_ haF; have HBF := H_ hbF; have hbr : branch S cs la lb = if allB S cs then la else lb := rfl; have HBR := H_ hbr
   show Calls Tryz.prog 33 _ w (RunRE TA s S F cs (branch S cs la lb) (runE S cs la lb) w)
   generalize runE S cs la lb = RE at *; clear hv ha hch hap hho hva hvb haF hbF hE hks hka hkb hbr hS h hre hrv hm0 hsz; go_enter Tryz.func33, Tryz.ntmps33; go_wp2_with (go_at_call 38; refine (HCH.out _ (Fr.refl No w)).mono ?_; rintro e w1 ⟨rfl, hf1⟩)
   go_loopg [32, 13, 14] cs.length (fun g s32 s13 s14 wr => ∃ (i : Nat) (b : Bool), s32 = .int .i64 i ∧ i + g = cs.length ∧ s13 = .bool b ∧ s14 = (if b then va else vb) ∧ b = allB S (cs.take i) ∧ Hid (Fr No w wr))
   case atStart => exact ⟨0, true, rfl, by simp, rfl, rfl, rfl, H_ hf1⟩
   case round =>
    obtain ⟨i, b, rfl, hi, rfl, rfl, hb, HF⟩ := hrel
    cases gk with
    | zero =>
      have hil : ¬ (i : Int) < (cs.length : Int) := (by omega); have hti : cs.take i = cs := List.take_of_length_le (by omega); rw [hti] at hb; have HB := H_ hb; clear hb
      have hvo : SlR wr 10 opC (if b then va else vb) (branch S cs la lb) := by
       rw [HBR.out, ← HB.out]; cases b
       · exact HVB.out.fr0 HF.out
       exact HVA.out.fr0 HF.out
      have hoF : 0 < (branch S cs la lb).length → ∀ k, (if b then va else vb).ownBlock = some k → ¬ F k := by
       rw [HBR.out, ← HB.out]; cases b
       · exact HBF.out
       exact HAF.out
      have HAPP := H_ (HAP.out wr HF.out _ hvo hoF); clear hvo hoF HAP HHO HCH; generalize (if b then va else vb) = vo at *; have hsz := HF.out.size; have HSZ := H_ hsz; clear hsz; by_cases hz : RE = 0
      · subst hz
        simp only [if_true] at HAPP; go_wp2_with (go_at_call 37; refine HAPP.out.mono ?_; rintro e w2 ⟨av, ev, rfl, F', Z, h1, h2, h3, h4, h5, h6, h7, h8⟩)
        (try simp only [Exit.inBlock, Exit.then]); refine bodyPost_ret (zca rfl _ _ _) rfl ?_
        have hsz := HSZ.out; unfold RunRE; refine ⟨av, ev, by rw [← HB.out]; rfl, F', Z, h1, h2, h3, h4, (HF.out.mono fun _ _ h => h.elim).trans h5 fun _ _ h => h, fun k hk => ?_, fun k hk => ?_, fun k hk => ?_⟩
        · rcases h6 k hk with h | h
          · exact .inl h
          exact .inr (by omega)
        · have := h7 k hk; exact ⟨by omega, this.2⟩
        have := h8 k hk; exact ⟨by omega, this.2⟩
      have hz' : (RE == 0) = false := beq_eq_false_iff_ne.2 hz
      have hzd : decide (RE = 0) = false := decide_eq_false hz; simp only [if_neg hz] at HAPP; go_wp2_with (go_at_call 37; refine HAPP.out.mono ?_; rintro e w2 ⟨av, ev, rfl, F', Z, h1, h2, h3, h4, h5, h6, h7, h8⟩)
      (try simp only [Exit.inBlock, Exit.then]); refine bodyPost_ret (zca rfl _ _ _) rfl ?_
      have hsz := HSZ.out; unfold RunRE; simp only [if_neg hz, hzd]; refine ⟨_, _, rfl, F', [], h1, AnsR.nil _, rfl, SlF.nil _ _ _ _, (HF.out.mono fun _ _ h => h.elim).trans h5 fun _ _ h => h, fun k hk => ?_, fun k hk => by simp [Value.ownBlock] at hk, fun k hk => ?_⟩
      · rcases h6 k hk with h | h
        · exact .inl h
        exact .inr (by omega)
      rcases hk with hb | ⟨i, q, hq, _⟩
      · simp [Value.ownBlock] at hb
      simp at hq
    | succ g =>
      obtain ⟨gb, go, rfl⟩ := HA.out (by omega); obtain ⟨p, hx⟩ : ∃ p, cs[i]? = some p := ⟨_, List.getElem?_eq_getElem (by omega)⟩; have hvr := HV.out.fr0 HF.out; have x0 := hvr.cell0 zbb i hx rfl; have x1 := hvr.cell zbb i 1 hx rfl; have x2 := hvr.cell zbb i 2 hx rfl; have x3 := hvr.cell zbb i 3 hx rfl; have x4 := hvr.cell zbb i 4 hx rfl; have hil : (i : Int) < (cs.length : Int) := (by omega); have hcw := fun W (h : Fr No w W) => HHO.out W h p (List.mem_of_getElem? hx); unfold cmpV at hcw; have HCW := H_ hcw
      have hnx : allB S (cs.take (i + 1)) = (b && holdsB S p) := by
       rw [hb]; unfold allB; rw [List.take_add_one, hx, List.all_append]; simp
      have HNX := H_ hnx; clear hvr hx hcw hnx hb; generalize holdsB S p = hp at *; cases hp
      · go_wp2_with (go_at_call 31; refine (HCW.out _ (HF.out.alloc _)).mono ?_; rintro e w2 ⟨rfl, hf2⟩)
        go_roundg g
        case rel => exact ⟨i + 1, false, by go_num, by omega, rfl, rfl, by rw [HNX.out]; simp, H_ ((HF.out.alloc _).trans0 hf2)⟩
        case measure => omega
      cases b
      · go_wp2_with (go_at_call 31; refine (HCW.out _ (HF.out.alloc _)).mono ?_; rintro e w2 ⟨rfl, hf2⟩)
        go_roundg g
        case rel => exact ⟨i + 1, false, by go_num, by omega, rfl, rfl, by rw [HNX.out]; simp, H_ ((HF.out.alloc _).trans0 hf2)⟩
        case measure => omega
      go_wp2_with (go_at_call 31; refine (HCW.out _ (HF.out.alloc _)).mono ?_; rintro e w2 ⟨rfl, hf2⟩)
      go_roundg g
      case rel => exact ⟨i + 1, true, by go_num, by omega, rfl, rfl, by rw [HNX.out]; simp, H_ ((HF.out.alloc _).trans0 hf2)⟩
      case measure => omega
 have hre : runE S cs la lb = txnE cs la lb := by unfold runE; rw [if_pos hE]
 have hnz : runE S cs la lb ≠ 0 := (by rw [hre]; exact hE)
 show Calls Tryz.prog 33 _ w (RunRE TA s S F cs (branch S cs la lb) (runE S cs la lb) w)
 rw [hre]; have hnb : (txnE cs la lb == 0) = false := beq_eq_false_iff_ne.2 hE; generalize txnE cs la lb = te at *; have HCH := H_ hch; have HS := H_ hS; have HE := H_ hE; obtain ⟨a, cap, rfl, _, _, _⟩ := hv.shape; obtain ⟨aa, acap, rfl, _, _, _⟩ := hva.shape; obtain ⟨ab, bcap, rfl, _, _, _⟩ := hvb.shape; clear hv hva hvb hch hS haF hbF hks hka hkb h hre hnz hE; go_enter Tryz.func33, Tryz.ntmps33; go_wp2_with (go_at_call 38; refine (HCH.out _ (Fr.refl No w)).mono ?_; rintro e w1 ⟨rfl, hf1⟩)
 (try simp only [Exit.inBlock, Exit.then]); refine bodyPost_ret (zca rfl _ _ _) rfl ?_
 have hzd : decide (te = 0) = false := decide_eq_false HE.out; unfold RunRE; simp only [if_neg HE.out, hzd]; refine ⟨_, _, rfl, F, [], HS.out.fr0 hT hf1, AnsR.nil _, rfl, SlF.nil _ _ _ _, hf1.mono fun _ _ h => h.elim, fun b h => .inl h, fun b hb => by simp [Value.ownBlock] at hb, fun b hb => ?_⟩; rcases hb with hb | ⟨i, q, hq, _⟩
 · simp [Value.ownBlock] at hb
 simp at hq
theorem zeo (w : World) (k v : ByteArray) : Calls Tryz.prog 74 #[.string k, .string v] w fun e w' => e = .returned (opV (putO k v)) ∧ Fr No w w' := by
 go_enter Tryz.func74, Tryz.ntmps74; go_wp2; exact bodyPost_ret (results_cell_row rfl _ _ w.heap.size 94 _ (0, 0) _ rfl (zad _ _ _ rfl) Tryz.underlying94 rfl (by kernel_rfl)) rfl ⟨rfl, (Fr.refl No w).alloc _⟩
theorem zjs {W : World} {b : Nat} {o : Cmp} {t : TypeId} (h : W.heap[b]? = some (.cells (cmpC o).toArray t (0, 0))) : SlR W 5 cmpC (.slice (some ⟨b, 0, none⟩) 1 1) [o] := by
 refine ⟨_, 1, rfl, by simp, by decide, fun _ => ⟨b, 0, rfl, fun i x hx j u hu => ?_⟩⟩; obtain ⟨rfl, rfl⟩ := zte hx; unfold World.cell?; simp only [h, Nat.zero_mul, Nat.zero_add, Option.isSome_none, Bool.false_eq_true, if_false]; simpa using hu
theorem zxg : branch S1 [noneC] [putO bA b2] [getO bA] = [getO bA] := by kernel_rfl
theorem zxf : branch S1 [] [putO bB b2] [] = [putO bB b2] := by kernel_rfl
theorem zwk : allB S1 [noneC] = false := by kernel_rfl
theorem zsr : runE S1 [noneC] [putO bA b2] [getO bA] = 0 := by kernel_rfl
theorem zsq : runE S1 [] [putO bB b2] [] = 0 := by kernel_rfl
theorem zwj : allB S1 [] = true := by kernel_rfl
theorem zug : applyE newS [putO bA b1] = 0 := by kernel_rfl
theorem zxj : applyE S1 [putO bB b2] = 0 := by kernel_rfl
theorem zko : ∃ D, Good 1 S1 D := ⟨_, Good.new.apply (by omega) (zbk zug).1 (by decide)⟩
theorem zwl : ∃ D, Good 2 S2 D := by
 obtain ⟨D, h⟩ := zko; exact ⟨_, h.apply (by omega) (zbk zxj).1 (by decide)⟩
theorem zrr {TA : zao} (hT : TreeOk TA 1000000) (w : World) (s : Nat) (F : Nat → Prop) (hS : zaj TA w s st0 F) (v : Value) (hv : SlR w 10 opC v [putO bA b1])
 (hvF : 0 < [putO bA b1].length → ∀ b, v.ownBlock = some b → ¬ F b) :
 Calls Tryz.prog 37 #[.pointer (some ⟨s, 0, none⟩), v] w fun e w' => ∃ av ev, e = .returned (.tuple #[av, ev, .int .i64 0]) ∧ ∃ F' Z, zaj TA w' s S1 F' ∧ AnsR w' av Z ∧
  Z.map (·.1) = (runR (newS.rev + 1) ⟨newS, [], []⟩ [putO bA b1]).A ∧ SlF w' 101 13 evC ev (runR (newS.rev + 1) ⟨newS, [], []⟩ [putO bA b1]).E ∧ Fr F w w' ∧ (∀ b, F' b → F b ∨ w.heap.size ≤ b) ∧
  (∀ b, ev.ownBlock = some b → w.heap.size ≤ b ∧ ¬ F' b) ∧ (∀ b, ansF av Z b → w.heap.size ≤ b ∧ ¬ F' b) := by
 have h := zgy hT Good.new (by omega) w s F hS v [putO bA b1] hv hvF (by decide) (by decide); rw [zug] at h; simp only [if_true] at h; exact h
theorem zux {TA : zao} (hT : TreeOk TA 1000000) (W : World) (s p q r : Nat) (F1 : Nat → Prop) (hS : zaj TA W s S1 F1) (hp : W.heap[p]? = some (.cells (cmpC noneC).toArray 53 (0, 0))) (hq : W.heap[q]? = some (.cells (opC (putO bA b2)).toArray 94 (0, 0)))
 (hr : W.heap[r]? = some (.cells (opC (getO bA)).toArray 94 (0, 0))) (nq : ¬ F1 q) (nr : ¬ F1 r) :
 Calls Tryz.prog 33 #[.pointer (some ⟨s, 0, none⟩), .slice (some ⟨p, 0, none⟩) 1 1, .slice (some ⟨q, 0, none⟩) 1 1, .slice (some ⟨r, 0, none⟩) 1 1] W fun e w' => ∃ g o cap ev F', e = .returned (.tuple #[.bool false, .slice (some ⟨g, o, none⟩) 1 cap, ev, .int .i64 0]) ∧
  zaj TA w' s S1 F' ∧ w'.cell? ⟨g, o + 2, none⟩ = some (.int .i64 1) ∧ Fr F1 W w' ∧ (∀ b, F' b → F1 b ∨ W.heap.size ≤ b) ∧ W.heap.size ≤ g ∧ ¬ F' g := by
 obtain ⟨D, hG⟩ := zko
 have h := zuk hT hG (by omega) W s F1 hS _ _ _ [noneC] [putO bA b2] [getO bA] (zjs hp) (zjr hq) (zjr hr)
  (fun _ b hb => by simp [Value.ownBlock] at hb; rw [← hb]; exact nq) (fun _ b hb => by simp [Value.ownBlock] at hb; rw [← hb]; exact nr) (by decide) (by decide) (by decide) (by decide) (by decide) (by decide)
 unfold RunR RunRE at h; rw [zsr, zxg, zwk] at h; simp only [if_true, decide_true, Bool.true_and] at h; refine h.mono ?_; rintro e w' ⟨av, ev, rfl, F', Z, h1, h2, h3, h4, h5, h6, h7, h8⟩; rw [zxm] at h1
 have hz : Z.map (fun q => (q.1.kvs.length, q.1.count)) = [(1, 1)] := by
  have e1 := congrArg (List.map fun a : Ans => (a.kvs.length, a.count)) h3; rw [zsp, List.map_map] at e1; exact e1
 obtain ⟨z, rfl⟩ := List.length_eq_one_iff.1 (show Z.length = 1 by have := congrArg List.length hz; simpa using this); simp only [List.map_cons, List.map_nil, List.cons.injEq, Prod.mk.injEq, and_true] at hz; obtain ⟨a, cap, rfl, h9, h10, h11⟩ := h2.sl.shape; obtain ⟨g, o, rfl⟩ := h11 (by simp); have hc := h2.sl.cell zov 0 2 rfl rfl; rw [hz.2] at hc; have hg := h8 g (.inl rfl); exact ⟨g, o, cap, ev, F', rfl, h1, by simpa using hc, h5, h6, hg.1, hg.2⟩
theorem zuw {TA : zao} (hT : TreeOk TA 1000000) (W : World) (s q : Nat) (F1 : Nat → Prop) (hS : zaj TA W s S1 F1) (hq : W.heap[q]? = some (.cells (opC (putO bB b2)).toArray 94 (0, 0))) (nq : ¬ F1 q) :
 Calls Tryz.prog 33 #[.pointer (some ⟨s, 0, none⟩), .slice none 0 0, .slice (some ⟨q, 0, none⟩) 1 1, .slice none 0 0] W fun e w' => ∃ av a cap F', e = .returned (.tuple #[.bool true, av, .slice a 1 cap, .int .i64 0]) ∧
  zaj TA w' s S2 F' ∧ Fr F1 W w' := by
 obtain ⟨D, hG⟩ := zko
 have h := zuk hT hG (by omega) W s F1 hS _ _ _ [] [putO bB b2] [] (SlR.nil _ _ _) (zjr hq) (SlR.nil _ _ _)
  (fun _ b hb => by simp [Value.ownBlock] at hb; rw [← hb]; exact nq) (fun h => by cases h) (by decide) (by decide) (by decide) (by decide) (by decide) (by decide)
 unfold RunR RunRE at h; rw [zsq, zxf, zwj] at h; simp only [if_true, decide_true, Bool.true_and] at h; refine h.mono ?_; rintro e w' ⟨av, ev, rfl, F', Z, h1, h2, h3, h4, h5, h6, h7, h8⟩; obtain ⟨a, cap, rfl, h9, h10, h11⟩ := h4.shape; exact ⟨av, a, cap, F', rfl, h1, h5⟩
set_option maxHeartbeats 4000000 in
theorem zez {TA : zao} (hT : TreeOk TA 1000000) (w : World) : Calls Tryz.prog 29 #[] w fun e w' => e = .returned (.bool true) ∧ Fr No w w' := by
 go_enter Tryz.func29, Tryz.ntmps29
 go_upto_region 5 with (first
  | (go_at_call 17; refine (zfk hT _).mono ?_; rintro e w1 ⟨s, rfl, F0, hs1, hf1, hn1⟩)
  | (go_at_call 74; refine (zeo _ _ _).mono ?_; rintro e w2 ⟨rfl, hf2⟩; unfold opV putO rg0; dsimp only)
  | (go_at_call 37; refine (zrr hT _ s F0 ((hs1.fr0 hT hf2).fr0 hT ((Fr.refl No w2).alloc _)) _ (zjr (zad _ _ _ rfl)) (fun _ b hb h => by
      have h1 := hs1.lt hT _ h; have h2 := hf2.size; simp [Value.ownBlock] at hb; omega)).mono ?_
     rintro e w3 ⟨av, ev, rfl, F1, Z, hs3, ha3, hz3, he3, hf3, hn3, hev3, hav3⟩))
 have hS : zaj TA w3 s S1 F1 := hs3; have hw3 : Fr No w w3 := ((hf1.trans0 hf2).alloc _).trans hf3 fun b hb h => by have := hn1 b h; omega
 have hsz2 : w.heap.size ≤ w2.heap.size := (hf1.trans0 hf2).size
 have hF1 : ∀ b, F1 b → w.heap.size ≤ b := fun b hb => by
  rcases hn3 b hb with h | h
  · exact hn1 b h
  simp at h; omega
 clear hs1 hf1 hn1 hf2 hs3 ha3 hz3 he3 hf3 hn3 hev3 hav3 hsz2; have hb2 : ((w3.alloc (Obj.cells (cmpC oneC).toArray 53)).alloc (Obj.cells (cmpC noneC).toArray 53)).heap[w3.heap.size]? = some (.cells (cmpC oneC).toArray 53 (0, 0)) := zal (zad _ _ _ rfl) _; have hb3 : ((w3.alloc (Obj.cells (cmpC oneC).toArray 53)).alloc (Obj.cells (cmpC noneC).toArray 53)).heap[w3.heap.size + 1]? = some (.cells (cmpC noneC).toArray 53 (0, 0)) := zad _ _ _ (by simp); have hw4 : Fr No w3 ((w3.alloc (Obj.cells (cmpC oneC).toArray 53)).alloc (Obj.cells (cmpC noneC).toArray 53)) := ((Fr.refl No w3).alloc _).alloc _
 have hdef : ((w3.alloc (Obj.cells (cmpC oneC).toArray 53)).alloc (Obj.cells (cmpC noneC).toArray 53)) = ((w3.alloc (Obj.cells #[Value.string ⟨#[97]⟩, .int .i64 1, .int .i64 0, .int .i64 1, .string ⟨#[]⟩] 53)).alloc (Obj.cells #[Value.string ⟨#[97]⟩, .int .i64 2, .int .i64 0, .int .i64 0, .string ⟨#[]⟩] 53)) := rfl; rw [hdef] at hb2 hb3 hw4; clear hdef; generalize ((w3.alloc (Obj.cells #[Value.string ⟨#[97]⟩, .int .i64 1, .int .i64 0, .int .i64 1, .string ⟨#[]⟩] 53)).alloc (Obj.cells #[Value.string ⟨#[97]⟩, .int .i64 2, .int .i64 0, .int .i64 0, .string ⟨#[]⟩] 53)) = W4 at hb2 hb3 hw4 ⊢
 have hcell : ∀ W, Fr F1 W4 W → W.cell? ⟨w3.heap.size + 1, 0, none⟩ = some (.string ⟨#[97]⟩) ∧ W.cell? ⟨w3.heap.size + 1, 1, none⟩ = some (.int .i64 2) ∧ W.cell? ⟨w3.heap.size + 1, 2, none⟩ = some (.int .i64 0) ∧ W.cell? ⟨w3.heap.size + 1, 3, none⟩ = some (.int .i64 0) ∧
  W.cell? ⟨w3.heap.size + 1, 4, none⟩ = some (.string ByteArray.empty) := by
  intro W hW; have h := hW.heap hb3 (fun h => by have := hS.lt hT _ h; omega); simp [World.cell?, h, cmpC, noneC, bA]
 have HCELL := H_ hcell; have HB2 := H_ hb2; have HS := H_ hS; have HW4 := H_ hw4; have HW3 := H_ hw3; have HF1 := H_ hF1; have l34 : w3.heap.size + 2 ≤ W4.heap.size := by have := zaa hb3; omega
 have HLS := H_ (hS.lt hT); clear hcell hb2 hb3 hS hw4 hw3 hF1
 go_cut [4, 5, 7] (fun s4 s5 s7 wx => s4 = .bool false ∧ s7 = .int .i64 0 ∧ ∃ (g o cap : Nat) (F2 : Nat → Prop), s5 = .slice (some ⟨g, o, none⟩) 1 cap ∧ Hid (zaj TA wx s S1 F2) ∧ wx.cell? ⟨g, o + 2, none⟩ = some (.int .i64 1) ∧ Hid (Fr F1 W4 wx) ∧
  Hid (∀ b, F2 b → F1 b ∨ W4.heap.size ≤ b) ∧ Hid (W4.heap.size ≤ g ∧ ¬ F2 g))
 case first =>
  go_region_held3 (fun W => W.cell? ⟨w3.heap.size + 1, 0, none⟩ = some (.string ⟨#[97]⟩) ∧ W.cell? ⟨w3.heap.size + 1, 1, none⟩ = some (.int .i64 2) ∧ W.cell? ⟨w3.heap.size + 1, 2, none⟩ = some (.int .i64 0) ∧ W.cell? ⟨w3.heap.size + 1, 3, none⟩ = some (.int .i64 0) ∧
   W.cell? ⟨w3.heap.size + 1, 4, none⟩ = some (.string ByteArray.empty))
   (first | ((refine HCELL.out _ ?_); (repeat (first | with_reducible exact Fr.refl _ _ | with_reducible exact hf45 | with_reducible refine Fr.alloc ?_ _ | with_reducible refine Fr.drew ?_ | (with_reducible refine Fr.trans0 ?_ (by with_reducible assumption)))); done))
   (first
     | (go_at_call 74; refine (zeo _ _ _).mono ?_; rintro e w4 ⟨rfl, hf4⟩; unfold opV putO rg0; dsimp only)
     | (go_at_call 33
        have hz4 : W4.heap.size ≤ w4.heap.size := (by have := hf4.size; simp at this; omega)
        refine (zux hT _ s _ _ _ F1 (HS.out.fr0 hT (HW4.out.trans0 (by (repeat (first | with_reducible exact Fr.refl _ _ | with_reducible refine Fr.alloc ?_ _ | with_reducible refine Fr.drew ?_ | (with_reducible refine Fr.trans0 ?_ (by with_reducible assumption)))); done)))
         (by repeat (first | exact zad _ _ _ (by first | rfl | simp) | refine zal ?_ _ | refine hf4.heap ?_ id)) (by repeat (first | exact zad _ _ _ (by first | rfl | simp) | refine zal ?_ _ | refine hf4.heap ?_ id)) (by repeat (first | exact zad _ _ _ (by first | rfl | simp) | refine zal ?_ _ | refine hf4.heap ?_ id))
         (fun h => by have := HLS.out _ h; omega) (fun h => by have := HLS.out _ h; omega)).mono ?_
        rintro e w5 ⟨g, o, cap, ev, F2, rfl, hs5, hc5, hf5, hn5, hg5, ng5⟩; have hn6 : ∀ b, F2 b → F1 b ∨ W4.heap.size ≤ b := fun b hb => (hn5 b hb).imp id (fun h => by (try simp at h); omega); have hg6 : W4.heap.size ≤ g := (by (try simp at hg5); omega); have hf45 : Fr F1 W4 w5 := Fr.trans (S := F1) (T := F1) (by (repeat (first | with_reducible exact Fr.refl _ _ | with_reducible refine Fr.alloc ?_ _ | with_reducible refine Fr.drew ?_ | (with_reducible refine Fr.trans0 ?_ (by with_reducible assumption)))); done) hf5 fun _ _ h => h))
  all_goals
   go_wp2_with fail; go_meet
   case rel => exact ⟨rfl, rfl, g, o, cap, F2, rfl, H_ (hs5.fr0 hT (by (repeat (first | with_reducible exact Fr.refl _ _ | with_reducible refine Fr.drew ?_)); done)), hc5, H_ (hf45.trans0 (by (repeat (first | with_reducible exact Fr.refl _ _ | with_reducible refine Fr.drew ?_)); done)), H_ hn6, H_ ⟨hg6, ng5⟩⟩
 case rest =>
  obtain ⟨rfl, rfl, g, o, cap, F2, rfl, HS5, hc5, HF5, HN5, HG5⟩ := hcut; have HB5 := H_ (HF5.out.heap HB2.out (fun h => by have := HLS.out _ h; omega))
  have n2 : ¬ F2 w3.heap.size := fun h => by
   rcases HN5.out _ h with h | h
   · have := HLS.out _ h; omega
   omega
  have n3 : ∀ b, F2 b → w.heap.size ≤ b := fun b h => by
   have := HW3.out.size; rcases HN5.out _ h with h | h
   · exact HF1.out b h
   omega
  have lg := World.block_lt_of_cell? _ _ hc5; have hw5 : Fr No w wc := (HW3.out.trans0 HW4.out).trans HF5.out fun b hb h => by have := HF1.out b h; omega
  have HW5 := H_ hw5; have HN3 := H_ n3; have HLS5 := H_ (HS5.out.lt hT); clear hw5 n3 HCELL
  go_upto_region 7 with (first
   | (go_at_call 74; refine (zeo _ _ _).mono ?_; rintro e w6 ⟨rfl, hf6⟩; unfold opV putO rg0; dsimp only)
   | (go_at_call 33; refine (zuw hT _ s w6.heap.size F2 ((HS5.out.fr0 hT hf6).fr0 hT ((Fr.refl No w6).alloc _)) (zad _ _ _ rfl) (fun h => by have := HLS5.out _ h; have := hf6.size; omega)).mono ?_
      rintro e w7 ⟨av7, a7, cap7, F3, rfl, hs7, hf7⟩; have hf57 : Fr F2 wc w7 := (((Fr.refl F2 wc).trans (hf6.mono fun _ _ h => h.elim) fun _ _ h => h).alloc _).trans hf7 fun _ _ h => h; have HB7 := H_ (hf57.heap HB5.out n2); have hc7 := hf57.cell hc5 HG5.out.2; have HS7 := H_ hs7; have HF57 := H_ hf57; clear hs7 hf57 hf7))
  have y0 : w7.cell? ⟨w3.heap.size, 0, none⟩ = some (.string ⟨#[97]⟩) := (by simp [World.cell?, HB7.out, cmpC, oneC, bA]); have y1 : w7.cell? ⟨w3.heap.size, 1, none⟩ = some (.int .i64 1) := (by simp [World.cell?, HB7.out, cmpC, oneC, bA]); have y2 : w7.cell? ⟨w3.heap.size, 2, none⟩ = some (.int .i64 0) := (by simp [World.cell?, HB7.out, cmpC, oneC, bA]); have y3 : w7.cell? ⟨w3.heap.size, 3, none⟩ = some (.int .i64 1) := (by simp [World.cell?, HB7.out, cmpC, oneC, bA]); have y4 : w7.cell? ⟨w3.heap.size, 4, none⟩ = some (.string ByteArray.empty) := (by simp [World.cell?, HB7.out, cmpC, oneC, bA]); have ly := zaa HB7.out; have lg7 := World.block_lt_of_cell? _ _ hc7; obtain ⟨D2, hG2⟩ := zwl; have hho := zmu hT (n := 20000 * 2) (by omega) w7 s S2 F3 HS7.out hG2.ok (by rw [S2_len]; omega) (by decide) oneC (by decide); rw [zvu] at hho; unfold cmpV oneC bA at hho; dsimp only at hho
  have HHO := H_ hho; have hck := fun (W : World) (p : Nat) (hp : W.heap[p]? = some (.cells (cmpC sixC).toArray 53 (0, 0))) => zfj W (.slice (some ⟨p, 0, none⟩) 1 1) (.slice none 0 0) (.slice none 0 0) [sixC] [] [] (zjs hp) (SlR.nil _ _ _) (SlR.nil _ _ _) (by decide) (by decide) (by decide) (by decide) (by decide) (by decide); rw [chk_e] at hck; have HCK := H_ hck; clear hho hck
  go_wp2_with (first
   | (go_at_call 31; refine HHO.out.mono ?_; rintro e w8 ⟨rfl, hf8⟩
      have hc8 := hf8.cell0 hc7)
   | (go_at_call 19; refine (ziz w8 s S2 F3 (HS7.out.fr0 hT hf8)).mono ?_; rintro e w9 ⟨rfl, rfl⟩; rw [S2_rev])
   | (go_at_call 38; refine (HCK.out _ w8.heap.size (zad _ _ _ rfl)).mono ?_; rintro e w10 ⟨rfl, hf10⟩))
  go_ret; refine ⟨rfl, (HW5.out.trans (HF57.out.trans0 (hf8.trans0 (((Fr.refl No w8).alloc _).trans0 hf10))) fun b hb h => ?_)⟩; have := HN3.out b h; omega
def rgz : Rg := ⟨ByteArray.empty, ByteArray.empty, 0, 0, false, false, false⟩
def calO (v : Value) : Cal := ⟨0, v, rgz, 0, 0, .slice none 0 0⟩
def fewCmp (c : Cmp) : Bool := decide (c.key.size ≤ 3000) && decide (c.value.size ≤ 3000)
def fewTxn (cs : List Cmp) (la lb : List Opr) : Bool := decide (cs.length ≤ 30) && zbg [(calO (.slice none 0 0), la, []), (calO (.slice none 0 0), lb, [])] && cs.all fewCmp
theorem zwf {W : World} {b : Nat} {va vb : Value} {la lb : List Opr} (h : W.heap[b]? = some (.cells ((calC (calO va, la, [])) ++ (calC (calO vb, lb, []))).toArray 38 (0, 0))) (ha : SlR W 10 opC va la) (hb : SlR W 10 opC vb lb) :
 CalR W (.slice (some ⟨b, 0, none⟩) 2 2) [(calO va, la, []), (calO vb, lb, [])] := by
 have two : ∀ (i : Nat) (x : Cal × List Opr × List ByteArray), [(calO va, la, []), (calO vb, lb, [])][i]? = some x → (i = 0 ∧ x = (calO va, la, [])) ∨ (i = 1 ∧ x = (calO vb, lb, [])) := by
  intro i x hx
  match i, hx with
  | 0, hx => left; simp at hx; exact ⟨rfl, hx.symm⟩
  | 1, hx => right; simp at hx; exact ⟨rfl, hx.symm⟩
  | i + 2, hx => simp at hx
 refine ⟨⟨_, 2, rfl, by simp, by decide, fun _ => ⟨b, 0, rfl, fun i x hx j u hu => ?_⟩⟩, fun i q hq => ?_, fun i q hq => ?_⟩
 · unfold World.cell?
   simp only [h, Option.isSome_none, Bool.false_eq_true, if_false]; rcases two i x hx with ⟨rfl, rfl⟩ | ⟨rfl, rfl⟩
   · have hj : j < 12 := (List.getElem?_eq_some_iff.1 hu).1
     simp only [Nat.zero_mul, Nat.zero_add, List.getElem?_toArray]; rw [List.getElem?_append_left (by exact hj)]; exact hu
   have hj : j < 12 := (List.getElem?_eq_some_iff.1 hu).1
   simp only [Nat.one_mul, Nat.zero_add, List.getElem?_toArray]; rw [List.getElem?_append_right (by rw [zat]; omega), zat, Nat.add_sub_cancel_left]; exact hu
 · rcases two i q hq with ⟨rfl, rfl⟩ | ⟨rfl, rfl⟩
   · exact ha
   exact hb
 rcases two i q hq with ⟨rfl, rfl⟩ | ⟨rfl, rfl⟩
 · exact SlR.nil _ _ _
 exact SlR.nil _ _ _
set_option maxHeartbeats 2000000 in
theorem zmj (w : World) (v va vb : Value) (cs : List Cmp) (la lb : List Opr) (hv : SlR w 5 cmpC v cs) (hva : SlR w 10 opC va la) (hvb : SlR w 10 opC vb lb) :
 Calls Tryz.prog 28 #[.agg #[v, va, vb]] w fun e w' => e = .returned (.bool (fewTxn cs la lb)) ∧ Fr No w w' := by
 obtain ⟨a, cap, rfl, hc1, hc2, ha⟩ := hv.shape; obtain ⟨aa, acap, rfl, _, _, _⟩ := hva.shape; obtain ⟨ab, bcap, rfl, _, _, _⟩ := hvb.shape; have HV := H_ hv; clear hv; have HA := H_ ha; clear ha; have HVA := H_ hva; clear hva; have HVB := H_ hvb; clear hvb; by_cases h30 : 30 < cs.length
 · have h30' : (30 : Int) < (cs.length : Int) := by omega
   have : fewTxn cs la lb = false := (by unfold fewTxn; simp; omega); rw [this]; go_enter Tryz.func28, Tryz.ntmps28; go_wp2; go_ret; exact ⟨rfl, (Fr.refl No w).alloc _⟩
 have h30' : ¬ (30 : Int) < (cs.length : Int) := by omega
 have hE : fewTxn cs la lb = (zbg [(calO (.slice none 0 0), la, []), (calO (.slice none 0 0), lb, [])] && cs.all fewCmp) := by
  have h30'' : decide (cs.length ≤ 30) = true := (by rw [decide_eq_true_eq]; omega); unfold fewTxn; rw [h30'']
  rfl
 have hfc := fun W (p : Nat) h1 h2 h3 => zgc W _ _ (zwf (b := p) (va := .slice aa la.length acap) (vb := .slice ab lb.length bcap) (la := la) (lb := lb) (W := W) h1 h2 h3); have hfc : ∀ W (p : Nat), _ → _ → _ → Calls Tryz.prog 15 #[.slice (some ⟨p, 0, none⟩) 2 2] W fun e w' => e = .returned (.bool (zbg [(calO (.slice none 0 0), la, []), (calO (.slice none 0 0), lb, [])])) ∧ W = w' := hfc; generalize zbg [(calO (.slice none 0 0), la, []), (calO (.slice none 0 0), lb, [])] = fc at *; have HE := H_ hE; clear hE; have HFC := H_ hfc; clear hfc; cases fc
 · go_enter Tryz.func28, Tryz.ntmps28
   go_wp2_with (go_at_call 15; refine (HFC.out _ (w.heap.size + 1) (zad _ _ _ (by simp)) ((HVA.out.alloc _).alloc _) ((HVB.out.alloc _).alloc _)).mono ?_; rintro e w' ⟨rfl, rfl⟩); go_ret; exact ⟨by rw [HE.out]; rfl, ((Fr.refl No w).alloc _).alloc _⟩
 go_enter Tryz.func28, Tryz.ntmps28
 go_wp2_with (go_at_call 15; refine (HFC.out _ (w.heap.size + 1) (zad _ _ _ (by simp)) ((HVA.out.alloc _).alloc _) ((HVB.out.alloc _).alloc _)).mono ?_; rintro e w' ⟨rfl, rfl⟩)
 go_loopg [3] cs.length (fun g s3 wr => ∃ i : Nat, s3 = .int .i64 i ∧ i + g = cs.length ∧ Hid ((cs.take i).all fewCmp = true) ∧ wr = (w.alloc (Obj.cells #[.slice a cs.length cap, .slice aa la.length acap, .slice ab lb.length bcap] 57)).alloc (Obj.cells ((calC (calO (.slice aa la.length acap), la, [])) ++ (calC (calO (.slice ab lb.length bcap), lb, []))).toArray 38))
 case atStart => exact ⟨0, rfl, by simp, H_ (by simp), rfl⟩
 case round =>
  obtain ⟨i, rfl, hi, HJ, rfl⟩ := hrel; have hb0 : ((w.alloc (Obj.cells #[.slice a cs.length cap, .slice aa la.length acap, .slice ab lb.length bcap] 57)).alloc (Obj.cells ((calC (calO (.slice aa la.length acap), la, [])) ++ (calC (calO (.slice ab lb.length bcap), lb, []))).toArray 38)).heap[w.heap.size]? = some (.cells #[.slice a cs.length cap, .slice aa la.length acap, .slice ab lb.length bcap] 57 (0, 0)) := zal (zad _ _ _ rfl) _; have hfw : Fr No w ((w.alloc (Obj.cells #[.slice a cs.length cap, .slice aa la.length acap, .slice ab lb.length bcap] 57)).alloc (Obj.cells ((calC (calO (.slice aa la.length acap), la, [])) ++ (calC (calO (.slice ab lb.length bcap), lb, []))).toArray 38)) := ((Fr.refl No w).alloc _).alloc _
  generalize ((w.alloc (Obj.cells #[.slice a cs.length cap, .slice aa la.length acap, .slice ab lb.length bcap] 57)).alloc (Obj.cells ((calC (calO (.slice aa la.length acap), la, [])) ++ (calC (calO (.slice ab lb.length bcap), lb, []))).toArray 38)) = W at *; have z0 : W.cell? ⟨w.heap.size, 0, none⟩ = some (.slice a cs.length cap) := (by simp [World.cell?, hb0]); have lz := zaa hb0; clear hb0
  cases gk with
  | zero =>
    have hil : ¬ (i : Int) < (cs.length : Int) := (by omega); have hti : cs.take i = cs := List.take_of_length_le (by omega); rw [hti] at HJ; go_wp2; go_ret; exact ⟨by rw [HE.out, HJ.out]; rfl, hfw⟩
  | succ g =>
    obtain ⟨gb, go, rfl⟩ := HA.out (by omega); obtain ⟨p, hx⟩ : ∃ p, cs[i]? = some p := ⟨_, List.getElem?_eq_getElem (by omega)⟩; have hvr := HV.out.fr0 hfw; have x0 := hvr.cell0 zbb i hx rfl; have x4 := hvr.cell zbb i 4 hx rfl; have hil : (i : Int) < (cs.length : Int) := (by omega); have hnx := zcp (p := fewCmp) hx; have hfa := zdc (p := fewCmp) hx; have HNX := H_ hnx; have HFA := H_ hfa; clear hx hvr hnx hfa; by_cases h1 : 3000 < p.key.size
    · have h1' : (3000 : Int) < (p.key.size : Int) := by omega
      have hf : fewCmp p = false := (by unfold fewCmp; simp; omega); have HF := H_ hf; clear hf; go_wp2; go_ret; exact ⟨by rw [HE.out, HFA.out HF.out]; rfl, hfw⟩
    have h1' : ¬ (3000 : Int) < (p.key.size : Int) := by omega
    by_cases h2 : 3000 < p.value.size
    · have h2' : (3000 : Int) < (p.value.size : Int) := by omega
      have hf : fewCmp p = false := (by unfold fewCmp; simp; omega); have HF := H_ hf; clear hf; go_wp2; go_ret; exact ⟨by rw [HE.out, HFA.out HF.out]; rfl, hfw⟩
    have h2' : ¬ (3000 : Int) < (p.value.size : Int) := by omega
    have hf : fewCmp p = true := (by unfold fewCmp; simp; omega); have HF := H_ hf; clear hf; go_wp2; go_roundg g
    case rel => exact ⟨i + 1, by go_num, by omega, H_ (by rw [HNX.out, HJ.out, HF.out]; rfl), rfl⟩
    case measure => omega
end Go.Proofs.YthljnnjpmdgkoaaGreat