/- Lemmas for the claim. Conditions stand in each. -/
import Derived.Test.YthljnnjpmdgkoaaGreatG13
import Derived.Test.YthljnnjpmdgkoaaGreatG10
import Derived.Test.YthljnnjpmdgkoaaGreatG11
import Derived.Test.YthljnnjpmdgkoaaGreatG05
import Derived.Test.YthljnnjpmdgkoaaGreatG02
import Derived.Test.YthljnnjpmdgkoaaGreatG08
import Derived.Test.YthljnnjpmdgkoaaGreatG01
import Derived.Maps.RangeRun
namespace Go.Proofs.YthljnnjpmdgkoaaGreat
open Go Go.Proofs Go.RowKit
def keepP (R : Int) (S : St) (p : ByteArray × Int) : Bool := match S.past p.2 with
 | some H => !(compK R H.gens).isEmpty
 | none => true
def compP (R : Int) (o : Option Hist) : Option Hist := match o with
 | some H => if (compK R H.gens).isEmpty then none else some (compH R H)
 | none => none
def compTo (R : Int) (S : St) (i : Nat) : St where
 T := (S.T.take i).filter (keepP R S) ++ S.T.drop i
 past := fun j => if j ∈ (S.T.take i).map (·.2) then compP R (S.past j) else S.past j
 next := S.next
 rev := S.rev
 mark := R
 events := S.events.filter (keptB R)
def compS (R : Int) (S : St) : St := compTo R S S.T.length
theorem zok (R : Int) (S : St) : compTo R S 0 = { S with mark := R, events := S.events.filter (keptB R) } := by
 unfold compTo; simp
theorem zom {R : Int} {S : St} {i : Nat} {p : ByteArray × Int} {H : Hist} (hp : S.T[i]? = some p) (hH : S.past p.2 = some H) (hk : compK R H.gens ≠ []) :
 compTo R S (i + 1) = { compTo R S i with past := fun j => if j = p.2 then some (compH R H) else (compTo R S i).past j } := by
 have hi := (List.getElem?_eq_some_iff.1 hp).1
 have hke : keepP R S p = true := by
  unfold keepP; rw [hH]; simpa using hk
 unfold compTo
 congr 1
 · rw [List.take_add_one, hp, List.filter_append, List.drop_eq_getElem_cons hi, (List.getElem?_eq_some_iff.1 hp).2]
   simp [hke]
 funext j
 rw [List.take_add_one, hp, List.map_append]; dsimp only; by_cases hj : j = p.2
 · subst hj
   have hce : (compK R H.gens).isEmpty = false := (by simpa using hk); simp [compP, hH, hk]
 simp [hj]
theorem zon {R : Int} {S : St} {i : Nat} {p : ByteArray × Int} {H : Hist} (hs : Sorted S.T) (hp : S.T[i]? = some p) (hH : S.past p.2 = some H) (hk : compK R H.gens = []) :
 compTo R S (i + 1) = { compTo R S i with T := delT (compTo R S i).T p.1, past := fun j => if j = p.2 then none else (compTo R S i).past j } := by
 have hi := (List.getElem?_eq_some_iff.1 hp).1
 have hke : keepP R S p = false := by
  unfold keepP; rw [hH]; simpa using hk
 have hdr : S.T.drop i = p :: S.T.drop (i + 1) := by rw [List.drop_eq_getElem_cons hi, (List.getElem?_eq_some_iff.1 hp).2]
 have hsp : Sorted (S.T.take i ++ p :: S.T.drop (i + 1)) := by rw [← hdr, List.take_append_drop]; exact hs
 obtain ⟨s1, s2, s3⟩ := List.pairwise_append.1 hsp; obtain ⟨s4, _⟩ := List.pairwise_cons.1 s2; unfold compTo
 congr 1
 · rw [hdr]
   unfold delT; rw [List.filter_append, List.filter_cons, List.take_add_one, hp, List.filter_append]
   have e1 : ((S.T.take i).filter (keepP R S)).filter (fun q => !keq q.1 p.1) = (S.T.take i).filter (keepP R S) := by
    rw [List.filter_eq_self]; intro q hq; have := s3 q (List.mem_filter.1 hq).1 p List.mem_cons_self; rw [klt_ne this]; rfl
   have e2 : (S.T.drop (i + 1)).filter (fun q => !keq q.1 p.1) = S.T.drop (i + 1) := by
    rw [List.filter_eq_self]; intro q hq; have := s4 q hq; rw [zbv, klt_ne this]; rfl
   rw [e1, e2, if_neg (by rw [zar.2 rfl]; simp)]; simp [hke]
 funext j
 rw [List.take_add_one, hp, List.map_append]; dsimp only; by_cases hj : j = p.2
 · subst hj
   simp [compP, hH, hk]
 simp [hj]
theorem ztq {M : Int} {S : St} (h : SInv M S) (hs : Sorted S.T) : (S.T.map (·.2)).Nodup := by
 unfold List.Nodup; rw [List.pairwise_map]; refine List.Pairwise.imp_of_mem (fun {p q} hp hq hpq => ?_) hs; intro e; have h1 := zci hs hp; have h2 := zci hs hq; have := h.inj p.1 q.1 (by rw [h1]) (by rw [h2]) (by rw [h1, h2]; exact e); rw [this, zaz] at hpq; cases hpq
theorem zol {R : Int} {S : St} (hnd : (S.T.map (·.2)).Nodup) {i : Nat} {p : ByteArray × Int} (hp : S.T[i]? = some p) : (compTo R S i).past p.2 = S.past p.2 := by
 have hi := (List.getElem?_eq_some_iff.1 hp).1; unfold compTo; dsimp only; rw [if_neg]; intro hm; obtain ⟨q, hq, e⟩ := List.mem_map.1 hm; obtain ⟨j, hj⟩ := List.mem_iff_getElem?.1 hq
 have hji : j < i := by
  have := (List.getElem?_eq_some_iff.1 hj).1; simp at this; omega
 rw [List.getElem?_take_of_lt hji] at hj; have h1 : (S.T.map (·.2))[j]? = (S.T.map (·.2))[i]? := by rw [List.getElem?_map, List.getElem?_map, hj, hp]; simp [e]
 have := (List.getElem?_inj (by simpa using (List.getElem?_eq_some_iff.1 hj).1) hnd).1 h1; omega
section
variable {TA : zao} {N : Nat} (hT : TreeOk TA N) {w w' : World} {s t p : Nat} {ev : Value} {hp : Int → Option Nat} {FT : Nat → Prop} {FH : Int → Nat → Prop} {S : St}
include hT
theorem StoreR.dropHist (a : StoreR TA w s t p ev hp FT FH S) (id : Int) (hf : Fr (fun b => b = p) w w') (hm : MapAt w' p fun i => if i = id then none else (hp i).map fun h => .pointer (some ⟨h, 0, none⟩)) :
 StoreR TA w' s t p ev (fun i => if i = id then none else hp i) FT (fun i b => i ≠ id ∧ FH i b) { S with past := fun i => if i = id then none else S.past i } where
 obj := a.obj.fr hf fun e => a.map.apart a.obj e.symm
 tree := hT.fr a.tree hf fun b hb e => a.dp.1 (e ▸ hb)
 map := by
  refine cast (congrArg (MapAt w' p) ?_) hm
  funext i
  by_cases hi : i = id <;> simp [hi]
 events := a.events.fr hf fun b hb e => a.dp.2.1 (e ▸ hb)
 hist i H hi := by
  dsimp only at hi; by_cases hi' : i = id
  · rw [if_pos hi'] at hi; cases hi
  rw [if_neg hi'] at hi
  obtain ⟨h2, h3, h4⟩ := a.hist i H hi; refine ⟨h2, by rw [if_neg hi']; exact h3, ?_⟩; have h5 := h4.fr hf fun b hb e => a.dp.2.2 i (e ▸ hb); have : (fun b => i ≠ id ∧ FH i b) = FH i := (by funext b; simp [hi']); rw [this]; exact h5
 gone i hi := by
  dsimp only at hi; by_cases hi' : i = id
  · exact ⟨if_pos hi', fun b hb => hb.1 hi'⟩
  rw [if_neg hi'] at hi
  exact ⟨by rw [if_neg hi']; exact (a.gone i hi).1, fun b hb => (a.gone i hi).2 b hb.2⟩
 ds := ⟨a.ds.1, a.ds.2.1, fun i e => a.ds.2.2 i e.2⟩
 dp := ⟨a.dp.1, a.dp.2.1, fun i e => a.dp.2.2 i e.2⟩
 dt b hb := ⟨(a.dt b hb).1, fun i e => (a.dt b hb).2 i e.2⟩
 de b hb i e := a.de b hb i e.2
 dh i j b hi hj := a.dh i j b hi.2 hj.2
end
set_option maxRecDepth 100000
def fewOp (o : Opr) : Bool := decide (o.rg.key.size ≤ 3000) && decide (o.rg.end_.size ≤ 3000) && decide (o.value.size ≤ 3000)
def fewOps (l : List Opr) : Bool := decide (l.length ≤ 30) && l.all fewOp
theorem zcp {α : Type} {l : List α} {p : α → Bool} {i : Nat} {x : α} (hx : l[i]? = some x) : (l.take (i + 1)).all p = ((l.take i).all p && p x) := by
 rw [List.take_add_one, hx, List.all_append]; simp
theorem zdc {α : Type} {l : List α} {p : α → Bool} {i : Nat} {x : α} (hx : l[i]? = some x) (hp : p x = false) : l.all p = false := by
 rw [List.all_eq_false]; exact ⟨x, List.mem_of_getElem? hx, by simp [hp]⟩
set_option maxHeartbeats 2000000 in
theorem zmk (w : World) (v : Value) (l : List Opr) (hv : SlR w 10 opC v l) : Calls Tryz.prog 48 #[v] w fun e w' => e = .returned (.bool (fewOps l)) ∧ w = w' := by
 obtain ⟨a, cap, rfl, hc1, hc2, ha⟩ := hv.shape; have HV := H_ hv; clear hv; have HA := H_ ha; clear ha; by_cases h30 : 30 < l.length
 · have h30' : (30 : Int) < (l.length : Int) := by omega
   have : fewOps l = false := (by unfold fewOps; simp; omega); rw [this]; go_enter Tryz.func48, Tryz.ntmps48; go_wp2; go_ret; exact ⟨rfl, rfl⟩
 have h30' : ¬ (30 : Int) < (l.length : Int) := by omega
 have hE : fewOps l = l.all fewOp := (by unfold fewOps; simp; omega); have HE := H_ hE; clear hE; go_enter Tryz.func48, Tryz.ntmps48; go_wp2
 go_loopg [3] l.length (fun g s3 wr => ∃ i : Nat, s3 = .int .i64 i ∧ i + g = l.length ∧ Hid ((l.take i).all fewOp = true) ∧ w = wr)
 case atStart => exact ⟨0, rfl, by simp, H_ (by simp), rfl⟩
 case round =>
  obtain ⟨i, rfl, hi, HJ, rfl⟩ := hrel
  cases gk with
  | zero =>
    have hil : ¬ (i : Int) < (l.length : Int) := (by omega); have hti : l.take i = l := List.take_of_length_le (by omega); rw [hti] at HJ; go_wp2; go_ret; exact ⟨by rw [HE.out, HJ.out]; rfl, rfl⟩
  | succ g =>
    obtain ⟨gb, go, rfl⟩ := HA.out (by omega); obtain ⟨p, hx⟩ : ∃ p, l[i]? = some p := ⟨_, List.getElem?_eq_getElem (by omega)⟩; have hvr := HV.out; have x1 := hvr.cell zag i 1 hx rfl; have x2 := hvr.cell zag i 2 hx rfl; have x8 := hvr.cell zag i 8 hx rfl; have hil : (i : Int) < (l.length : Int) := (by omega); have hnx := zcp (p := fewOp) hx; have hfa := zdc (p := fewOp) hx; have HNX := H_ hnx; have HFA := H_ hfa; clear hx hvr hnx hfa; by_cases h1 : 3000 < p.rg.key.size
    · have h1' : (3000 : Int) < (p.rg.key.size : Int) := by omega
      have hf : fewOp p = false := (by unfold fewOp; simp; omega); have HF := H_ hf; clear hf; go_wp2; go_ret; exact ⟨by rw [HE.out, HFA.out HF.out]; rfl, rfl⟩
    have h1' : ¬ (3000 : Int) < (p.rg.key.size : Int) := by omega
    by_cases h2 : 3000 < p.rg.end_.size
    · have h2' : (3000 : Int) < (p.rg.end_.size : Int) := by omega
      have hf : fewOp p = false := (by unfold fewOp; simp; omega); have HF := H_ hf; clear hf; go_wp2; go_ret; exact ⟨by rw [HE.out, HFA.out HF.out]; rfl, rfl⟩
    have h2' : ¬ (3000 : Int) < (p.rg.end_.size : Int) := by omega
    by_cases h3 : 3000 < p.value.size
    · have h3' : (3000 : Int) < (p.value.size : Int) := by omega
      have hf : fewOp p = false := (by unfold fewOp; simp; omega); have HF := H_ hf; clear hf; go_wp2; go_ret; exact ⟨by rw [HE.out, HFA.out HF.out]; rfl, rfl⟩
    have h3' : ¬ (3000 : Int) < (p.value.size : Int) := by omega
    have hf : fewOp p = true := (by unfold fewOp; simp; omega); have HF := H_ hf; clear hf; go_wp2; go_roundg g
    case rel => exact ⟨i + 1, by go_num, by omega, H_ (by rw [HNX.out, HJ.out, HF.out]; rfl), rfl⟩
    case measure => omega
structure Cal where
 kind : Int
 ops : Value
 rg : Rg
 rev : Int
 upto : Int
 keys : Value
def calC (q : Cal × List Opr × List ByteArray) : List Value := .int .i64 q.1.kind :: q.1.ops :: (rgC q.1.rg ++ [.int .i64 q.1.rev, .int .i64 q.1.upto, q.1.keys])
theorem zat (q : Cal × List Opr × List ByteArray) : (calC q).length = 12 := rfl
def strC (s : ByteArray) : List Value := [.string s]
theorem zdr (s : ByteArray) : (strC s).length = 1 := rfl
structure CalR (w : World) (v : Value) (Z : List (Cal × List Opr × List ByteArray)) : Prop where
 sl : SlR w 12 calC v Z
 ops : ∀ (i : Nat) q, Z[i]? = some q → SlR w 10 opC q.1.ops q.2.1
 keys : ∀ (i : Nat) q, Z[i]? = some q → SlR w 1 strC q.1.keys q.2.2
def fewKey (s : ByteArray) : Bool := decide (s.size ≤ 3000)
def fewCal (q : Cal × List Opr × List ByteArray) : Bool := fewOps q.2.1 && decide (q.2.2.length ≤ 30) && fewKey q.1.rg.key && fewKey q.1.rg.end_ && q.2.2.all fewKey
def zbg (Z : List (Cal × List Opr × List ByteArray)) : Bool := decide (Z.length ≤ 30) && Z.all fewCal
set_option maxHeartbeats 4000000 in
theorem zgc (w : World) (v : Value) (l : List (Cal × List Opr × List ByteArray)) (hv : CalR w v l) : Calls Tryz.prog 15 #[v] w fun e w' => e = .returned (.bool (zbg l)) ∧ w = w' := by
 obtain ⟨hv, hops, hkeys⟩ := hv; obtain ⟨a, cap, rfl, hc1, hc2, ha⟩ := hv.shape; have HV := H_ hv; clear hv; have HA := H_ ha; clear ha; have HO := H_ hops; clear hops; have HK := H_ hkeys; clear hkeys; by_cases h30 : 30 < l.length
 · have h30' : (30 : Int) < (l.length : Int) := by omega
   have : zbg l = false := (by unfold zbg; simp; omega); rw [this]; go_enter Tryz.func15, Tryz.ntmps15; go_wp2; go_ret; exact ⟨rfl, rfl⟩
 have h30' : ¬ (30 : Int) < (l.length : Int) := by omega
 have hE : zbg l = l.all fewCal := (by unfold zbg; simp; omega); have HE := H_ hE; clear hE; go_enter Tryz.func15, Tryz.ntmps15; go_wp2
 go_loopg [3] l.length (fun g s3 wr => ∃ i : Nat, s3 = .int .i64 i ∧ i + g = l.length ∧ Hid ((l.take i).all fewCal = true) ∧ w = wr)
 case atStart => exact ⟨0, rfl, by simp, H_ (by simp), rfl⟩
 case round =>
  obtain ⟨i, rfl, hi, HJ, rfl⟩ := hrel
  cases gk with
  | zero =>
    have hil : ¬ (i : Int) < (l.length : Int) := (by omega); have hti : l.take i = l := List.take_of_length_le (by omega); rw [hti] at HJ; go_wp2; go_ret; exact ⟨by rw [HE.out, HJ.out]; rfl, rfl⟩
  | succ g =>
    obtain ⟨gb, go, rfl⟩ := HA.out (by omega); obtain ⟨p, hx⟩ : ∃ p, l[i]? = some p := ⟨_, List.getElem?_eq_getElem (by omega)⟩; have hvr := HV.out; have x1 := hvr.cell zat i 1 hx rfl; have x2 := hvr.cell zat i 2 hx rfl; have x3 := hvr.cell zat i 3 hx rfl; have x11 := hvr.cell zat i 11 hx rfl; have hil : (i : Int) < (l.length : Int) := (by omega); have hnx := zcp (p := fewCal) hx; have hfa := zdc (p := fewCal) hx; have HNX := H_ hnx; have HFA := H_ hfa; have hops := HO.out i p hx; have hkeys := HK.out i p hx; have hfo := zmk w p.1.ops p.2.1 hops; have hfc : fewCal p = (fewOps p.2.1 && decide (p.2.2.length ≤ 30) && fewKey p.1.rg.key && fewKey p.1.rg.end_ && p.2.2.all fewKey) := rfl; clear hx hvr hnx hfa hops; obtain ⟨⟨p1, p2, ⟨g1, g2, g3, g4, g5, g6, g7⟩, p3, p4, p5⟩, ops, keys⟩ := p; dsimp only at x1 x2 x3 x11 hfo hkeys hfc; obtain ⟨ka, kcap, rfl, hkc1, hkc2, hka⟩ := hkeys.shape
    generalize fewCal _ = fc at *; generalize fewOps ops = fo at *; have HKS := H_ hkeys; clear hkeys; have HKA := H_ hka; clear hka; have HFO := H_ hfo; clear hfo; have HFC := H_ hfc; clear hfc; cases fo
    · have hf : fc = false := by rw [HFC.out]; rfl
      have HF := H_ hf; clear hf; go_wp2_with (go_at_call 48; refine HFO.out.mono ?_; rintro e w' ⟨rfl, rfl⟩); go_ret; exact ⟨by rw [HE.out, HFA.out HF.out]; rfl, rfl⟩
    by_cases h1 : 30 < keys.length
    · have h1' : (30 : Int) < (keys.length : Int) := by omega
      have hf : fc = false := (by rw [HFC.out]; simp; omega); have HF := H_ hf; clear hf; go_wp2_with (go_at_call 48; refine HFO.out.mono ?_; rintro e w' ⟨rfl, rfl⟩); go_ret; exact ⟨by rw [HE.out, HFA.out HF.out]; rfl, rfl⟩
    have h1' : ¬ (30 : Int) < (keys.length : Int) := by omega
    by_cases h2 : 3000 < g1.size
    · have h2' : (3000 : Int) < (g1.size : Int) := by omega
      have hf : fc = false := (by rw [HFC.out]; simp [fewKey]; omega); have HF := H_ hf; clear hf; go_wp2_with (go_at_call 48; refine HFO.out.mono ?_; rintro e w' ⟨rfl, rfl⟩); go_ret; exact ⟨by rw [HE.out, HFA.out HF.out]; rfl, rfl⟩
    have h2' : ¬ (3000 : Int) < (g1.size : Int) := by omega
    by_cases h3 : 3000 < g2.size
    · have h3' : (3000 : Int) < (g2.size : Int) := by omega
      have hf : fc = false := (by rw [HFC.out]; simp [fewKey]; omega); have HF := H_ hf; clear hf; go_wp2_with (go_at_call 48; refine HFO.out.mono ?_; rintro e w' ⟨rfl, rfl⟩); go_ret; exact ⟨by rw [HE.out, HFA.out HF.out]; rfl, rfl⟩
    have h3' : ¬ (3000 : Int) < (g2.size : Int) := by omega
    have hf : fc = keys.all fewKey := by
     rw [HFC.out]; have a1 : decide (keys.length ≤ 30) = true := (by simp; omega); have a2 : fewKey g1 = true := (by unfold fewKey; simp; omega); have a3 : fewKey g2 = true := (by unfold fewKey; simp; omega); rw [a1, a2, a3]; rfl
    have HF := H_ hf; clear hf; go_wp2_with (go_at_call 48; refine HFO.out.mono ?_; rintro e w' ⟨rfl, rfl⟩)
    go_loopg [4] keys.length (fun g' s4 wr => ∃ k : Nat, s4 = .int .i64 k ∧ k + g' = keys.length ∧ Hid ((keys.take k).all fewKey = true) ∧ w = wr)
    case atStart => exact ⟨0, rfl, by simp, H_ (by simp), rfl⟩
    case round =>
     obtain ⟨k, rfl, hk, HJ2, rfl⟩ := hrel
     cases gk with
     | zero =>
       have hkl : ¬ (k : Int) < (keys.length : Int) := (by omega); have hti : keys.take k = keys := List.take_of_length_le (by omega); rw [hti] at HJ2; go_wp2; go_roundg g
       case rel => exact ⟨i + 1, by go_num, by omega, H_ (by rw [HNX.out, HJ.out, HF.out, HJ2.out]; rfl), rfl⟩
       case measure => omega
     | succ g' =>
       obtain ⟨kb, ko, rfl⟩ := HKA.out (by omega); obtain ⟨q, hx⟩ : ∃ q, keys[k]? = some q := ⟨_, List.getElem?_eq_getElem (by omega)⟩; have z0 := HKS.out.cell0 zdr k hx rfl; have z0' : w.cell? ⟨kb, ko + k, none⟩ = some (.string q) := (by simpa using z0); have hkl : (k : Int) < (keys.length : Int) := (by omega); have hnx := zcp (p := fewKey) hx; have hfa := zdc (p := fewKey) hx; have HNX2 := H_ hnx; have HFA2 := H_ hfa; clear hx hnx hfa z0; by_cases h4 : 3000 < q.size
       · have h4' : (3000 : Int) < (q.size : Int) := by omega
         go_wp2; go_ret; exact ⟨by rw [HE.out, HFA.out (by rw [HF.out, HFA2.out (by unfold fewKey; simp; omega)])]; rfl, rfl⟩
       have h4' : ¬ (3000 : Int) < (q.size : Int) := by omega
       go_wp2; go_roundg g'
       case rel => exact ⟨k + 1, by go_num, by omega, H_ (by rw [HNX2.out, HJ2.out]; unfold fewKey; simp; omega), rfl⟩
       case measure => omega
def dropE (k : ByteArray) (rev : Int) (x : Kv) : Ev := ⟨2, ⟨k, ByteArray.empty, 0, rev, 0, 0⟩, x⟩
def dropR (rev : Int) (q : St × List Ev) (k : ByteArray) : St × List Ev :=
 if (livesS q.1 k rev).2 then (doS q.1 (dropE k rev (livesS q.1 k rev).1), q.2 ++ [dropE k rev (livesS q.1 k rev).1]) else q
def dropTo (rev : Int) (S : St) (keys : List ByteArray) (i : Nat) : St × List Ev := (keys.take i).foldl (dropR rev) (S, [])
def dropS (S : St) (keys : List ByteArray) : St :=
 if (keys.foldl (dropR (S.rev + 1)) (S, [])).2 = [] then (keys.foldl (dropR (S.rev + 1)) (S, [])).1 else { (keys.foldl (dropR (S.rev + 1)) (S, [])).1 with rev := S.rev + 1 }
theorem zeb (rev : Int) (S : St) (keys : List ByteArray) {i : Nat} {k : ByteArray} (h : keys[i]? = some k) : dropTo rev S keys (i + 1) = dropR rev (dropTo rev S keys i) k := by
 unfold dropTo; rw [List.take_add_one, h, List.foldl_append]
 rfl
set_option maxHeartbeats 4000000 in
theorem zry {TA : zao} {N : Nat} (hT : TreeOk TA N) {n : Nat} (hn : n ≤ 1099511627) (w : World) (s : Nat) (S : St) (F : Nat → Prop) (hS : zaj TA w s S F) (v : Value) (keys : List ByteArray) (hv : SlR w 1 strC v keys)
 (hvF : 0 < keys.length → ∀ b, v.ownBlock = some b → ¬ F b) (hkl : keys.length ≤ 1099511627) (hr0 : -top ≤ S.rev) (hr : S.rev < top)
 (hrun : ∀ i k, keys[i]? = some k → StOk n (dropTo (S.rev + 1) S keys i).1 ∧ (dropTo (S.rev + 1) S keys i).2.length ≤ 1099511627 ∧
   ((livesS (dropTo (S.rev + 1) S keys i).1 k (S.rev + 1)).2 = true → DoOk N (dropTo (S.rev + 1) S keys i).1 (dropE k (S.rev + 1) (livesS (dropTo (S.rev + 1) S keys i).1 k (S.rev + 1)).1))) :
 Calls Tryz.prog 57 #[.pointer (some ⟨s, 0, none⟩), v] w fun e w' => ∃ ev, e = .returned (.tuple #[ev, .int .i64 0]) ∧ ∃ F', zaj TA w' s (dropS S keys) F' ∧
  SlF w' 101 13 evC ev (keys.foldl (dropR (S.rev + 1)) (S, [])).2 ∧ Fr F w w' ∧ (∀ b, F' b → F b ∨ w.heap.size ≤ b) ∧ (∀ b, ev.ownBlock = some b → w.heap.size ≤ b ∧ ¬ F' b) := by
 obtain ⟨va, vcap, rfl, hc1, hc2, hva⟩ := hv.shape
 have hc3 : ∀ W, Fr No w W → W.cell? ⟨s, 3, none⟩ = some (.int .i64 S.rev) := fun W hW => by
  obtain ⟨t, p, ev, hp, FT, FH, a, hF⟩ := hS; exact hW.cell0 (a.obj.cell 3 rfl)
 have c3 := hc3 _ ((Fr.refl No w).alloc (Obj.cells #[.pointer (some ⟨s, 0, none⟩)] 25)); have c3' := hc3 _ (((Fr.refl No w).alloc (Obj.cells #[.pointer (some ⟨s, 0, none⟩)] 25)).alloc (Obj.cells #[.int .i64 (S.rev + 1)] 3)); have lsw : s < w.heap.size := World.block_lt_of_cell? _ _ (hc3 _ (Fr.refl No w)); have hmf : ∀ (fn : Fn) (first cap : Array Value) (w : World), (Instr.makeFunc fn first cap).run Tryz.prog w = .ok (.func fn first cap) w := fun _ _ _ _ => rfl; have HV := H_ hv; have HVA := H_ hva; have HVF := H_ hvF; have HS := H_ hS; have HRUN := H_ hrun; have HLS := H_ (hS.lt hT); have hrt : (S.rev == 1099511627776) = false := by rw [beq_eq_false_iff_ne]; unfold top at hr; omega
 have hr2 : S.rev < 1099511627776 := hr; have hr3 : -1099511627776 ≤ S.rev := hr0; have HAP : Hid (dropS S keys = if (keys.foldl (dropR (S.rev + 1)) (S, [])).2 = [] then (keys.foldl (dropR (S.rev + 1)) (S, [])).1 else { (keys.foldl (dropR (S.rev + 1)) (S, [])).1 with rev := S.rev + 1 }) := H_ rfl; have HALL : Hid (dropTo (S.rev + 1) S keys keys.length = keys.foldl (dropR (S.rev + 1)) (S, [])) := H_ (by unfold dropTo; rw [List.take_length]); clear hv hva hvF hS hrun hc3; go_enter Tryz.func57, Tryz.ntmps57; go_wp2_with fail; have hb0 : ((w.alloc (Obj.cells #[.pointer (some ⟨s, 0, none⟩)] 25)).alloc (Obj.cells #[.int .i64 (S.rev + 1)] 3)).heap[w.heap.size]? = some (.cells #[.pointer (some ⟨s, 0, none⟩)] 25 (0, 0)) := zal (zad _ _ _ rfl) _
 have hb1 : ((w.alloc (Obj.cells #[.pointer (some ⟨s, 0, none⟩)] 25)).alloc (Obj.cells #[.int .i64 (S.rev + 1)] 3)).heap[w.heap.size + 1]? = some (.cells #[.int .i64 (S.rev + 1)] 3 (0, 0)) := zad _ _ _ (by simp); have hw1 : Fr No w ((w.alloc (Obj.cells #[.pointer (some ⟨s, 0, none⟩)] 25)).alloc (Obj.cells #[.int .i64 (S.rev + 1)] 3)) := ((Fr.refl No w).alloc _).alloc _; have hsz1 : ((w.alloc (Obj.cells #[.pointer (some ⟨s, 0, none⟩)] 25)).alloc (Obj.cells #[.int .i64 (S.rev + 1)] 3)).heap.size = w.heap.size + 2 := by simp
 generalize (w.alloc (Obj.cells #[.pointer (some ⟨s, 0, none⟩)] 25)).alloc (Obj.cells #[.int .i64 (S.rev + 1)] 3) = W1 at *; have HB0 := H_ hb0; have HB1 := H_ hb1; have HW1 := H_ hw1; have HS1 := H_ (HS.out.fr0 hT hw1); clear hb0 hb1 c3 c3' hw1
 go_loopg [34, 8] keys.length (fun g s34 s8 wr => ∃ (i : Nat) (out : Value) (F1 : Nat → Prop), s34 = .int .i64 i ∧ s8 = out ∧ i + g = keys.length ∧ Hid (zaj TA wr s (dropTo (S.rev + 1) S keys i).1 F1) ∧ Hid (SlF wr 101 13 evC out (dropTo (S.rev + 1) S keys i).2) ∧ Hid (Fr F W1 wr) ∧
  Hid (∀ b, F1 b → F b ∨ W1.heap.size ≤ b) ∧ Hid (∀ b, out.ownBlock = some b → W1.heap.size ≤ b ∧ ¬ F1 b))
 case atStart => exact ⟨0, _, F, rfl, rfl, by simp, HS1, H_ (SlF.nil _ _ _ _), H_ (Fr.refl _ _), H_ (fun b h => .inl h), H_ (fun b h => by simp [Value.ownBlock] at h)⟩
 case round =>
  obtain ⟨i, out, F1, rfl, rfl, hi, HST, HOUT, HFR, HF1, HOF⟩ := hrel; have nb0 : ¬ F w.heap.size := fun h => by have := HLS.out _ h; omega
  have nb1 : ¬ F (w.heap.size + 1) := fun h => by have := HLS.out _ h; omega
  have hb0 := HFR.out.heap HB0.out nb0; have hb1 := HFR.out.heap HB1.out nb1; have lb0 := zaa hb0; have lb1 := zaa hb1; have q0 : wr.cell? ⟨w.heap.size, 0, none⟩ = some (.pointer (some ⟨s, 0, none⟩)) := (by simp [World.cell?, hb0]); have q1 : wr.cell? ⟨w.heap.size + 1, 0, none⟩ = some (.int .i64 (S.rev + 1)) := (by simp [World.cell?, hb1]); clear hb0 hb1; obtain ⟨ea, ecap, rfl, he1, he2, he3⟩ := HOUT.out.shape; clear he3
  cases gk with
  | zero =>
    have hil : ¬ (i : Int) < (keys.length : Int) := (by omega); have hie : i = keys.length := (by omega); subst hie; rw [HALL.out] at HST HOUT he1 HOF; generalize hR : keys.foldl (dropR (S.rev + 1)) (S, []) = r at *; obtain ⟨t1, p1, ev1, hp1, FT1, FH1, a1, hF1⟩ := HST.out; have c3 := a1.obj.cell 3 rfl; have f3 := a1.obj.free 3; have ls := a1.obj.lt; have HA1 := H_ a1; have HF1' := H_ hF1; clear a1 hF1; have hfw : Fr F w wr := (HW1.out.mono fun _ _ h => h.elim).trans HFR.out fun _ _ h => h; have HFW := H_ hfw; clear hfw; by_cases hE : r.2.length = 0
    · have hEz : ¬ (0 : Int) < (r.2.length : Int) := by omega
      have HEN := H_ (List.eq_nil_of_length_eq_zero hE); clear hE; rw [HALL.out]; go_wp2
      go_ret2
      refine ⟨.slice ea r.2.length ecap, rfl, F1, ?_, ?_, HFW.out, fun b hb => ?_, fun b hb => ?_⟩
      · rw [HAP.out, if_pos HEN.out]; exact HST.out
      · exact HOUT.out
      · rcases HF1.out b hb with h | h
        · exact .inl h
        exact .inr (by omega)
      have := HOF.out b hb
      exact ⟨by omega, this.2⟩
    have hEz : (0 : Int) < (r.2.length : Int) := by omega
    have HEN : Hid (¬ r.2 = []) := H_ (fun h => hE (by rw [h]; rfl)); have hF1s : F1 s := (HF1'.out s).2 (.inl rfl); clear hE; rw [HALL.out]; go_wp2
    go_ret2
    have hfs : Fr (fun b => b = s) wr (wr.setCell ⟨s, 3, none⟩ (.int .i64 (S.rev + 1))) := (Fr.refl _ wr).setAt 3 _; have hA2 := HA1.out.setObj hT hfs r.1.next (S.rev + 1) r.1.mark (HA1.out.obj.set 3 (.int .i64 (S.rev + 1))); refine ⟨.slice ea r.2.length ecap, rfl, F1, ?_, ?_, ?_, fun b hb => ?_, fun b hb => ?_⟩
    · rw [HAP.out, if_neg HEN.out]; exact ⟨t1, p1, ev1, hp1, FT1, FH1, hA2, HF1'.out⟩
    · exact HOUT.out.fr hfs fun b hb e => (HOF.out b hb).2 (by have e' : b = s := e; rw [e']; exact hF1s)
    · refine HFW.out.trans hfs fun b hb e => ?_
      have e' : b = s := e; subst e'; rcases HF1.out b hF1s with h | h
      · exact h
      omega
    · rcases HF1.out b hb with h | h
      · exact .inl h
      exact .inr (by omega)
    have := HOF.out b hb
    exact ⟨by omega, this.2⟩
  | succ g =>
    have hil : (i : Int) < (keys.length : Int) := (by omega); obtain ⟨gb, go, rfl⟩ := HVA.out (by omega); obtain ⟨k, hk⟩ : ∃ k, keys[i]? = some k := ⟨_, List.getElem?_eq_getElem (by omega)⟩; have hvr := (HV.out.fr0 HW1.out).fr HFR.out (HVF.out (by omega)); have x0' := hvr.cell0 zdr i hk rfl; have x0 : wr.cell? ⟨gb, go + i, none⟩ = some (.string k) := (by simpa using x0'); obtain ⟨d1, d2, d3⟩ := HRUN.out i k hk; have hsu := zeb (S.rev + 1) S keys hk; generalize dropTo (S.rev + 1) S keys i = q at *; have hli := fun W hW => zhu hT hn W s q.1 F1 hW d1 k (S.rev + 1); unfold dropR at hsu; obtain ⟨i0, hi0, hz0, hz1, hz2⟩ := info_parts info73; rcases hl : livesS q.1 k (S.rev + 1) with ⟨⟨l1, l2, l3, l4, l5, l6⟩, lb⟩
    rw [hl] at hsu d3; simp only [hl, zch, kvV] at hli; have HLI := H_ hli; have HSU := H_ hsu; have HD1 := H_ d1; have HD3 := H_ d3; clear hk hvr x0' hli hsu d1 d3 hl; have hszr := HFR.out.size; cases lb
    · go_wp2_with (go_at_call 66; refine (HLI.out _ HST.out).mono ?_; rintro e w2 ⟨rfl, hf2⟩)
      go_roundg g
      case rel =>
       have hsu := HSU.out.trans (if_neg Bool.false_ne_true); have hf3 := hf2.alloc (Obj.cells #[.string l1, .string l2, .int .i64 l3, .int .i64 l4, .int .i64 l5, .int .i64 l6] 99); exact ⟨i + 1, _, F1, by go_num, rfl, by omega, H_ (by rw [hsu]; exact HST.out.fr0 hT hf3), H_ (by rw [hsu]; exact HOUT.out.fr0 hf3), H_ (HFR.out.trans0 hf3), HF1, HOF⟩
      case measure => omega
    have hdo := fun W hW => zpy hT hn W s q.1 F1 hW HD1.out (dropE k (S.rev + 1) ⟨l1, l2, l3, l4, l5, l6⟩) (HD3.out rfl)
    have HDO := H_ hdo; clear hdo
    go_wp2_with (first
     | (go_at_call 66; refine (HLI.out _ HST.out).mono ?_; rintro e w2 ⟨rfl, hf2⟩
        have q02 := hf2.cell0 q0; have q12 := hf2.cell0 q1; have lb02 := World.block_lt_of_cell? _ _ q02; have lb12 := World.block_lt_of_cell? _ _ q12; have hsz2 := hf2.size)
     | (go_at_call 68
        have hfa : Fr No wr ((w2.alloc (Obj.cells #[.string l1, .string l2, .int .i64 l3, .int .i64 l4, .int .i64 l5, .int .i64 l6] 99)).alloc (Obj.cells #[.int .i64 2, .string k, .string ByteArray.empty, .int .i64 0, .int .i64 (S.rev + 1), .int .i64 0, .int .i64 0, .string l1, .string l2, .int .i64 l3, .int .i64 l4, .int .i64 l5, .int .i64 l6] 101)) := (hf2.alloc _).alloc _
        have hbe : ((w2.alloc (Obj.cells #[.string l1, .string l2, .int .i64 l3, .int .i64 l4, .int .i64 l5, .int .i64 l6] 99)).alloc (Obj.cells #[.int .i64 2, .string k, .string ByteArray.empty, .int .i64 0, .int .i64 (S.rev + 1), .int .i64 0, .int .i64 0, .string l1, .string l2, .int .i64 l3, .int .i64 l4, .int .i64 l5, .int .i64 l6] 101)).heap[w2.heap.size + 1]? = some (.cells #[.int .i64 2, .string k, .string ByteArray.empty, .int .i64 0, .int .i64 (S.rev + 1), .int .i64 0, .int .i64 0, .string l1, .string l2, .int .i64 l3, .int .i64 l4, .int .i64 l5, .int .i64 l6] 101 (0, 0)) := zad _ _ _ (by simp); have hF1lt := HST.out.lt hT; have nbe : ¬ F1 (w2.heap.size + 1) := fun h => by have := hF1lt _ h; omega
        refine (HDO.out _ (HST.out.fr0 hT hfa)).mono ?_; rintro e w3 ⟨⟨rv, rfl⟩, F2, hs3, hf3, hF2⟩; have hbe3 := hf3.heap hbe nbe; have k0 : w3.cell? ⟨w2.heap.size + 1, 0, none⟩ = some (.int .i64 2) := (by simp [World.cell?, hbe3]); have k1 : w3.cell? ⟨w2.heap.size + 1, 1, none⟩ = some (.string k) := (by simp [World.cell?, hbe3]); have k2 : w3.cell? ⟨w2.heap.size + 1, 2, none⟩ = some (.string ByteArray.empty) := (by simp [World.cell?, hbe3]); have k3 : w3.cell? ⟨w2.heap.size + 1, 3, none⟩ = some (.int .i64 0) := (by simp [World.cell?, hbe3]); have k4 : w3.cell? ⟨w2.heap.size + 1, 4, none⟩ = some (.int .i64 (S.rev + 1)) := (by simp [World.cell?, hbe3]); have k5 : w3.cell? ⟨w2.heap.size + 1, 5, none⟩ = some (.int .i64 0) := (by simp [World.cell?, hbe3]); have k6 : w3.cell? ⟨w2.heap.size + 1, 6, none⟩ = some (.int .i64 0) := (by simp [World.cell?, hbe3])
        have k7 : w3.cell? ⟨w2.heap.size + 1, 7, none⟩ = some (.string l1) := (by simp [World.cell?, hbe3]); have k8 : w3.cell? ⟨w2.heap.size + 1, 8, none⟩ = some (.string l2) := (by simp [World.cell?, hbe3]); have k9 : w3.cell? ⟨w2.heap.size + 1, 9, none⟩ = some (.int .i64 l3) := (by simp [World.cell?, hbe3]); have k10 : w3.cell? ⟨w2.heap.size + 1, 10, none⟩ = some (.int .i64 l4) := (by simp [World.cell?, hbe3]); have k11 : w3.cell? ⟨w2.heap.size + 1, 11, none⟩ = some (.int .i64 l5) := (by simp [World.cell?, hbe3]); have k12 : w3.cell? ⟨w2.heap.size + 1, 12, none⟩ = some (.int .i64 l6) := (by simp [World.cell?, hbe3]); have lbe := zaa hbe3; have hnew := zax w3 (evC (dropE k (S.rev + 1) ⟨l1, l2, l3, l4, l5, l6⟩)) 101 (0, 0); have hou3 := (HOUT.out.fr0 hfa).fr hf3 fun b hb h => (HOF.out b hb).2 h; have HOU3 := H_ hou3; have HS3 := H_ hs3; have HF3 := H_ hf3; have HF2 := H_ hF2
        have HFA := H_ hfa; have HLT := H_ hF1lt; clear hou3 hs3 hf3 hF2 hfa hbe hbe3 nbe hF1lt)
     | (at_builtin; refine zap rfl _ _ 28 rfl 101 i0 _ 13 136 Tryz.underlying28 hi0 hz0 hz1 hz2 rfl (by decide) _ q.2 rfl (HOU3.out.alloc _) w3.heap.size 1 (dropE k (S.rev + 1) ⟨l1, l2, l3, l4, l5, l6⟩) rfl hnew rfl ?c1 ?c2 ?c3 ?_))
    case c1 => intro u hu; simp [evC, kvC, dropE] at hu; rcases hu with rfl | rfl | rfl | rfl | rfl | rfl | rfl | rfl | rfl | rfl | rfl | rfl | rfl <;> rfl
    case c2 => unfold maxLen; omega
    case c3 => omega
    intro g7 o7 cap7 w4 hs4 hg4 hb4 hlt4; go_wp2; go_roundg g
    case rel =>
     have hsu := HSU.out.trans (if_pos trivial); have hsz3 := HF3.out.size; have hszA := HFA.out.size; have hf34 : Fr (fun b => (Value.slice ea q.2.length ecap).ownBlock = some b) w3 w4 := ((Fr.refl _ w3).alloc _).grown hg4 fun k hk => .inl hk
     have hg7 : (Value.slice ea q.2.length ecap).ownBlock = some g7 ∨ w3.heap.size ≤ g7 := by
      rcases hb4 with h | h
      · exact .inl h
      right
      have h' : g7 = w3.heap.size + 1 := (by simpa using h); omega
     have hnF2 : ∀ b, (Value.slice ea q.2.length ecap).ownBlock = some b → ¬ F2 b := fun b hb h => by
      have hbl := HOUT.out.lt b hb; rcases HF2.out b h with h | h
      · exact (HOF.out b hb).2 h
      omega
     have hF2l := HS3.out.lt hT; refine ⟨i + 1, _, F2, by go_num, rfl, by omega, H_ (by rw [hsu]; exact HS3.out.fr hT hf34 fun b hb h => hnF2 b h hb), H_ (by rw [hsu]; simpa using hs4), H_ ?_, H_ fun b hb => ?_, H_ fun b hb => ?_⟩
     · refine ((HFR.out.trans0 HFA.out).trans HF3.out fun b hb h => ?_).trans hf34 fun b hb h => ?_
       · rcases HF1.out b h with h | h
         · exact h
         omega
       have := (HOF.out b h).1; omega
     · rcases HF2.out b hb with h | h
       · exact HF1.out b h
       exact .inr (by omega)
     obtain rfl : g7 = b := by simpa [Value.ownBlock] using hb
     rcases hg7 with h | h
     · exact ⟨(HOF.out g7 h).1, hnF2 g7 h⟩
     exact ⟨by omega, fun h' => by have := hF2l g7 h'; omega⟩
    case measure => omega
theorem zxe (R : Int) (S : St) : (compS R S).T = S.T.filter (keepP R S) := by
 unfold compS compTo; simp
theorem zjk (R : Int) (S : St) (j : Int) : (compS R S).past j = if j ∈ S.T.map (·.2) then compP R (S.past j) else S.past j := by
 unfold compS compTo; dsimp only; rw [List.take_length]
theorem zfe {R : Int} {S : St} {j : Int} {G : Hist} (h : (compS R S).past j = some G) : ∃ H, S.past j = some H ∧ (G = H ∨ G = compH R H) := by
 rw [zjk] at h
 split at h
 · unfold compP at h
   cases hH : S.past j with
   | none => rw [hH] at h; cases h
   | some H =>
     rw [hH] at h; dsimp only at h
     split at h
     · cases h
     exact ⟨H, rfl, .inr (Option.some.inj h).symm⟩
 exact ⟨G, h, .inl rfl⟩
theorem Good.cut {k : Nat} {S : St} {D : Doc} (h : Good k S D) (hk : k ≤ 50000) {R : Int} (h1 : D.mark < R) (h2 : R ≤ D.rev) : Good k (compS R S) (D.cut R) := by
 have hT' := zxe R S; have hP' := zjk R S; have hsrt : Sorted (compS R S).T := by rw [hT']; exact List.Pairwise.sublist List.filter_sublist h.srt
 have hm0 := h.cpl.m0
 -- a key that is left has the number that it had
 have hin : ∀ key, (getT (compS R S).T key).2 = true → getT (compS R S).T key = getT S.T key ∧ (getT S.T key).2 = true ∧ keepP R S (key, (getT S.T key).1) = true := fun key hg => by
  have hm := zfc hg; rw [hT'] at hm; obtain ⟨a, b⟩ := List.mem_filter.1 hm; have e1 := zci h.srt a
  have e2 : getT (compS R S).T key = getT S.T key := by
   rw [e1]; rw [hT']; exact Prod.ext rfl (by rw [← hT']; exact hg)
  dsimp only at e1; refine ⟨e2, by rw [← e2]; exact hg, ?_⟩; rw [← e2, hT']; exact b
 have hmem : ∀ key, (getT S.T key).2 = true → (getT S.T key).1 ∈ S.T.map (·.2) := fun key hg => List.mem_map.2 ⟨_, zfc hg, rfl⟩
 have hinv : SInv D.rev (compS R S) := by
  refine ⟨fun key key' a b e => ?_, fun key a => ?_, fun i G hG => ?_⟩
  · obtain ⟨a1, a2, _⟩ := hin key a
    obtain ⟨b1, b2, _⟩ := hin key' b; rw [a1, b1] at e; exact h.cpl.inv.inj key key' a2 b2 e
  · obtain ⟨a1, a2, a3⟩ := hin key a
    obtain ⟨H, hH⟩ := h.cpl.inv.has key a2; unfold keepP at a3; dsimp only at a3; rw [hH] at a3; dsimp only at a3; refine ⟨compH R H, ?_⟩; rw [a1, hP', if_pos (hmem key a2), hH]; unfold compP; dsimp only; rw [if_neg (by simpa using a3)]
  obtain ⟨H, hH, e | e⟩ := zfe hG
  · rw [e]; exact h.cpl.inv.hist i H hH
  rw [e]
  have := h.cpl.inv.hist i H hH; exact ⟨⟨this.1.1.comp R, this.1.2⟩, this.2⟩
 have hlives : ∀ key r, R ≤ r → livesS (compS R S) key r = livesS S key r := fun key r hr => by
  cases hg : (getT S.T key).2 with
  | false =>
    have hg' : (getT (compS R S).T key).2 = false := by
     rw [Bool.eq_false_iff]; intro hg'; rw [(hin key hg').2.1] at hg; cases hg
    unfold livesS; rw [hg, hg']; simp
  | true =>
    obtain ⟨H, hH⟩ := h.cpl.inv.has key hg; have hI := (h.cpl.inv.hist _ _ hH).1.1; have hO := (h.more _ _ hH).ord; by_cases hc : compK R H.gens = []
    · have hg' : (getT (compS R S).T key).2 = false := by
       rw [Bool.eq_false_iff]; intro hg'; have h3 := (hin key hg').2.2; unfold keepP at h3; dsimp only at h3; rw [hH] at h3; dsimp only at h3; rw [hc] at h3; simp at h3
      unfold livesS; rw [hg, hg', if_pos rfl, hH, if_neg (by simp)]; dsimp only; rw [ztt hO hr hI.zero hc]
    have hm : (key, (getT S.T key).1) ∈ (compS R S).T := by
     rw [hT']; refine List.mem_filter.2 ⟨zfc hg, ?_⟩; unfold keepP; dsimp only; rw [hH]; simpa using hc
    have e1 := zci hsrt hm; dsimp only at e1; unfold livesS; rw [e1, hg, if_pos rfl, if_pos rfl, hH]; dsimp only; rw [hP', if_pos (hmem key hg), hH]; unfold compP; dsimp only; rw [if_neg (by simpa using hc)]; exact ztu hI hO hr
 exact {
  cpl := {
   mark := rfl
   events := by
    show S.events.filter (keptB R) = D.events.filter _
    rw [h.cpl.events]; refine List.filter_congr fun e he => ?_; have := (h.doc.lo e he).2.2; unfold keptB oldB; by_cases hm : e.kv.mod < R
    · have : ¬ R ≤ e.kv.mod := by omega
      simp [hm, this]
    have h3 : R ≤ e.kv.mod := by omega
    simp [hm, h3, this]
   inv := hinv
   ks := Doc.at_sorted h.cpl.ks R
   m0 := ⟨by show 0 ≤ R; omega, h2⟩
   lives := fun key r hr => by
    have hr' : R ≤ r := hr; rw [hlives key r hr', Doc.cut_at h.doc.es (by omega) hr' fun e he => (h.doc.lo e he).2.2]; exact h.cpl.lives key r (by omega) }
  doc := h.doc.cut h.cpl.ks R h1 h2
  ok := {
   pos := h.ok.pos
   next := h.ok.next
   id := fun p hp => by
    have hg := zci hsrt hp; obtain ⟨G, hG⟩ := hinv.has p.1 (by rw [hg]); rw [hg] at hG; exact ⟨G, hG⟩
   ids := fun i G hG => by
    obtain ⟨H, hH, _⟩ := zfe hG; exact h.ok.ids i H hH
   hist := fun i G hG => by
    obtain ⟨H, hH, e | e⟩ := zfe hG
    · rw [e]; exact h.ok.hist i H hH
    rw [e]
    have := h.ok.hist i H hH; exact ⟨this.1.comp (h.more i H hH) (by omega) R, this.2⟩
   rev0 := h.ok.rev0
   rev1 := h.ok.rev1
   mark0 := by show 0 ≤ R; omega
   ev := Nat.le_trans (List.length_filter_le _ _) h.ok.ev }
  size := by rw [hT']; exact Nat.le_trans (List.length_filter_le _ _) h.size
  srt := hsrt
  more := fun i G hG => by
   obtain ⟨H, hH, e | e⟩ := zfe hG
   · rw [e]; exact h.more i H hH
   rw [e]; exact (h.more i H hH).comp R
  rev := h.rev
  rev1 := h.rev1 }
theorem Good.events_pos {k : Nat} {S : St} {D : Doc} (h : Good k S D) (h1 : 1 ≤ D.rev) : 0 < S.events.length := by
 obtain ⟨e, he, _⟩ := h.doc.full D.rev h1 h.cpl.m0.2 (Int.le_refl _); rw [h.cpl.events]; exact List.length_pos_of_mem he
def dropP (keys : List ByteArray) : List Opr := keys.map fun k => ⟨2, ⟨k, ByteArray.empty, 0, 0, false, false, false⟩, ByteArray.empty, 0⟩
theorem zvt (k : ByteArray) : inB k k ByteArray.empty = true := by
 unfold inB; rw [if_pos (by rw [Lib.toList_data]; rfl)]; exact beq_self_eq_true _
theorem Good.drops {k : Nat} {S : St} {D : Doc} (h : Good k S D) (hk : k ≤ 70) (keys : List ByteArray) (_hl : keys.length ≤ 30) :
 ∀ i ≤ keys.length, RunOk (16 * k) (20000 * k + i) D (dropP keys) (dropTo (D.rev + 1) S keys i).1 (dropTo (D.rev + 1) S keys i).2 ∧
  ∀ key, keys[i]? = some key → (livesS (dropTo (D.rev + 1) S keys i).1 key (D.rev + 1)).2 = true → DoOk 1000000 (dropTo (D.rev + 1) S keys i).1 (dropE key (D.rev + 1) (livesS (dropTo (D.rev + 1) S keys i).1 key (D.rev + 1)).1) := by
 have hm0 := h.cpl.m0; have hr1 := h.rev1; have htop : D.rev + 1 ≤ top := by unfold top; omega
 -- a key that lives is dropped
 have step : ∀ i key (q : St × List Ev), keys[i]? = some key → RunOk (16 * k) (20000 * k + i) D (dropP keys) q.1 q.2 → (livesS q.1 key (D.rev + 1)).2 = true →
  DoOk 1000000 q.1 (dropE key (D.rev + 1) (livesS q.1 key (D.rev + 1)).1) ∧ RunOk (16 * k) (20000 * k + i + 1) D (dropP keys) (doS q.1 (dropE key (D.rev + 1) (livesS q.1 key (D.rev + 1)).1)) (q.2 ++ [dropE key (D.rev + 1) (livesS q.1 key (D.rev + 1)).1]) := fun i key q hx hq hlv => by
  have hpt := Doc.adds_parts D q.2; have hlives := hq.cpl.lives key (D.rev + 1) (by rw [hpt.1]; omega)
  have hne : hasL ((D.adds q.2).at (D.rev + 1)) key ≠ none := fun e => by
   rw [hlives, e] at hlv; cases hlv
  have hp : (livesS q.1 key (D.rev + 1)).1 = (hasL ((D.adds q.2).at (D.rev + 1)) key).getD kv0 := by
   rw [hlives]; cases hasL ((D.adds q.2).at (D.rev + 1)) key <;> rfl
  have := hq.event (N := 1000000) (dropE key (D.rev + 1) (livesS q.1 key (D.rev + 1)).1) (by omega) rfl htop hm0.2 hp (fun e he hke => by
   have hke' : e.kv.key = key := hke; rcases hq.by1 e he with ⟨_, o, ho, ho1, _⟩ | ⟨_, _, hn⟩
   · obtain ⟨k', _, rfl⟩ := List.mem_map.1 ho
     cases ho1
   · rw [hke'] at hn; exact hne hn) (by omega)
   (.inr ⟨rfl, ⟨⟨2, ⟨key, ByteArray.empty, 0, 0, false, false, false⟩, ByteArray.empty, 0⟩, List.mem_map.2 ⟨key, List.mem_of_getElem? hx, rfl⟩, rfl, zvt key⟩, hne⟩)
  rw [if_neg (show ¬ (dropE key (D.rev + 1) (livesS q.1 key (D.rev + 1)).1).kind = 1 by show ¬ (2 : Int) = 1; decide)] at this; exact this
 have key : ∀ i ≤ keys.length, RunOk (16 * k) (20000 * k + i) D (dropP keys) (dropTo (D.rev + 1) S keys i).1 (dropTo (D.rev + 1) S keys i).2 := by
  intro i
  induction i with
  | zero => intro _; exact h.begin.mono (Nat.le_refl _) (by omega) (by simp)
  | succ i ih =>
    intro hi; obtain ⟨x, hx⟩ : ∃ x, keys[i]? = some x := ⟨_, List.getElem?_eq_getElem (by omega)⟩; rw [zeb _ _ _ hx]; have a := ih (by omega); unfold dropR
    split
    · rename_i hlv
      exact (step i x _ hx a hlv).2
    exact a.mono (Nat.le_refl _) (by omega) fun _ h => h
 exact fun i hi => ⟨key i hi, fun x hx hlv => (step i x _ hx (key i hi) hlv).1⟩
def dropD (S : St) (D : Doc) (keys : List ByteArray) : Doc := D.adds (keys.foldl (dropR (D.rev + 1)) (S, [])).2
theorem Good.drop {k : Nat} {S : St} {D : Doc} (h : Good k S D) (hk : k ≤ 70) (keys : List ByteArray) (hl : keys.length ≤ 30) : Good (k + 1) (dropS S keys) (dropD S D keys) := by
 obtain ⟨a, _⟩ := h.drops hk keys hl keys.length (Nat.le_refl _); have he : dropTo (D.rev + 1) S keys keys.length = keys.foldl (dropR (D.rev + 1)) (S, []) := by unfold dropTo; rw [List.take_length]
 rw [he] at a; have hD := Doc.adds_rev D (keys.foldl (dropR (D.rev + 1)) (S, [])).2 _ a.mods; have hr := h.rev; have hr1 := h.rev1; unfold dropS dropD; rw [hr]; by_cases hE : (keys.foldl (dropR (D.rev + 1)) (S, [])).2 = []
 · rw [if_pos hE]
   rw [if_pos hE] at hD; exact { cpl := a.cpl, doc := a.doc.mono (by omega), ok := a.ok.mono (by omega), size := by have := a.size; omega, srt := a.srt, more := a.more.mono (by omega), rev := by rw [a.srev, hD], rev1 := by rw [hD]; omega }
 rw [if_neg hE]
 rw [if_neg hE] at hD; have hm0 := h.cpl.m0; exact { cpl := a.cpl.setRev _, doc := a.doc.mono (by omega), ok := (a.ok.mono (by omega)).setRev _ (by unfold top; omega) (by unfold top; omega), size := by have := a.size; dsimp only; omega, srt := a.srt, more := fun i H hi => a.more.mono (by omega) i H hi, rev := hD.symm, rev1 := by rw [hD]; omega }
def goneK (H : Hist) (rev r : Int) : Prop := H.kvs r ≠ none ∧ r ≤ rev ∧ r ≠ (atK H.gens rev).1.2.1
theorem zpj {α : Type} [DecidableEq α] : ∀ (a b : List α), a.Nodup → (∀ x ∈ a, x ∈ b) → a.length ≤ b.length
 | [], _, _, _ => by simp
 | x :: a, b, hn, hs => by
   have hx := hs x (by simp); obtain ⟨h1, h2⟩ := List.nodup_cons.1 hn; have h3 := zpj a (b.erase x) h2 fun y hy => (List.mem_erase_of_ne (fun e => h1 (by rw [← e]; exact hy))).2 (hs y (by simp [hy])); have h4 := List.length_erase_of_mem hx; have h5 : 0 < b.length := List.length_pos_of_mem hx; simp only [List.length_cons]; omega
theorem zvm (es : Array MapEntry) : (leftOf es #[]).size = es.size := by
 unfold leftOf; rw [Array.filter_eq_self.2 (fun x _ => by simp)]
theorem znd {W wr w2 : World} (hF : Fr No W wr) (hw2 : w2 = wr ∨ w2 = wr.drew) (o : Obj) : Fr No W (ChangeMaps.setBlock w2 W.heap.size o) := by
 have hF2 : Fr No W w2 := by 
  rcases hw2 with rfl | rfl
  · exact hF
  exact hF.drew
 exact ⟨hF2.os, hF2.tape, hF2.output, by have := hF2.size; simpa [ChangeMaps.setBlock] using this, fun k hk hS => (zgi w2 _ k _ (by omega)).trans (hF2.block k hk hS)⟩
end Go.Proofs.YthljnnjpmdgkoaaGreat