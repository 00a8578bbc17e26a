/- Lemmas for the claim. Conditions stand in each. -/
import Derived.Test.YthljnnjpmdgkoaaGreatG08
import Derived.Test.YthljnnjpmdgkoaaGreatG05
namespace Go.Proofs.YthljnnjpmdgkoaaGreat
open Go Go.Proofs Go.RowKit
set_option maxRecDepth 100000
def badB (S : St) (o : Opr) : Bool := o.kind == 3 && whenE S o.rg.rev != 0
theorem zqg {S : St} {ops : List Opr} {i : Nat} {p : Opr} (hj : ∀ j, j < i → ∀ q, ops[j]? = some q → badB S q = false) (hp : ops[i]? = some p) (h3 : badB S p = true) : whenAll S ops = whenE S p.rg.rev := by
 have hf : ops.find? (badB S) = some p := by
  have hi := (List.getElem?_eq_some_iff.1 hp).1
  have he : ops = ops.take i ++ p :: ops.drop (i + 1) := by
   have := List.take_append_drop i ops; rw [List.drop_eq_getElem_cons hi, (List.getElem?_eq_some_iff.1 hp).2] at this; exact this.symm
  rw [he, List.find?_append]
  have hn : (ops.take i).find? (badB S) = none := List.find?_eq_none.2 fun q hq => by
   obtain ⟨j, hq⟩ := List.mem_iff_getElem?.1 hq; have hjl := (List.getElem?_eq_some_iff.1 hq).1; rw [List.length_take] at hjl; rw [List.getElem?_take_of_lt (by omega)] at hq; rw [hj j (by omega) q hq]; simp
  rw [hn]; simp [h3]
 unfold whenAll; have : (fun o : Opr => o.kind == 3 && whenE S o.rg.rev != 0) = badB S := rfl; rw [this, hf]
theorem zks {S : St} {ops : List Opr} (hj : ∀ j, j < ops.length → ∀ q, ops[j]? = some q → badB S q = false) : whenAll S ops = 0 := by
 have hn : ops.find? (badB S) = none := List.find?_eq_none.2 fun q hq => by
  obtain ⟨j, hq⟩ := List.mem_iff_getElem?.1 hq; rw [hj j (List.getElem?_eq_some_iff.1 hq).1 q hq]; simp
 unfold whenAll; have : (fun o : Opr => o.kind == 3 && whenE S o.rg.rev != 0) = badB S := rfl; rw [this, hn]
set_option maxHeartbeats 4000000 in
theorem zmr {TA : zao} {N : Nat} (hT : TreeOk TA N) (w : World) (s : Nat) (S : St) (F : Nat → Prop) (hS : zaj TA w s S F) (v : Value) (ops : List Opr) (hv : SlR w 10 opC v ops)
 (hl : ops.length ≤ 1099511627) (hks : ∀ o ∈ ops, o.rg.key.size ≤ 1099511627776) (he : applyE S ops ≠ 0) :
 Calls Tryz.prog 37 #[.pointer (some ⟨s, 0, none⟩), v] w fun e w' => e = .returned (.tuple #[.slice none 0 0, .slice none 0 0, .int .i64 (applyE S ops)]) ∧ Fr No w w' := by
 have hch := fun W hv => zeh W v ops hv hl hks; obtain ⟨va, vcap, rfl, hc1, hc2, hva⟩ := hv.shape; have HV := H_ hv; have HVA := H_ hva; have HS := H_ hS; by_cases hc : checkE ops = 0
 · have hap : applyE S ops = whenAll S ops := by unfold applyE; rw [if_neg (by simpa using hc)]
   rw [hc] at hch; rw [hap] at he ⊢
   have HCH := H_ hch; have HE := H_ he; clear hv hva hS hch hc hap he hks; go_enter Tryz.func37, Tryz.ntmps37
   go_wp2_with (first
    | (go_at_call 83; refine (HCH.out _ (HV.out.alloc _)).mono ?_; rintro e w1 ⟨rfl, hf1⟩
       have hfA : Fr No w w1 := ((Fr.refl No w).alloc _).trans0 hf1; have hbA : w1.heap[w.heap.size]? = some (.cells #[.pointer (some ⟨s, 0, none⟩)] 25 (0, 0)) := hf1.heap (zad _ _ _ rfl) id; have bA : w1.cell? ⟨w.heap.size, 0, none⟩ = some (.pointer (some ⟨s, 0, none⟩)) := by simp [World.cell?, hbA]))
   go_loopg [29] ops.length (fun g s29 wr => ∃ i : Nat, s29 = .int .i64 i ∧ i + g = ops.length ∧ Hid (Fr No w1 wr) ∧ Hid (∀ j, j < i → ∀ q, ops[j]? = some q → badB S q = false))
   case atStart => exact ⟨0, rfl, by simp, H_ (Fr.refl No w1), H_ (by simp)⟩
   case round =>
    obtain ⟨i, rfl, hi, HF, HJ⟩ := hrel; have hfr : Fr No w wr := hfA.trans0 HF.out; have bR := HF.out.cell0 bA; have lbR := World.block_lt_of_cell? _ _ bR
    cases gk with
    | zero => exact absurd (zks fun j hj => HJ.out j (by omega)) HE.out
    | succ g =>
      obtain ⟨gb, go, rfl⟩ := HVA.out (by omega); obtain ⟨p, hx⟩ : ∃ p, ops[i]? = some p := ⟨_, List.getElem?_eq_getElem (by omega)⟩; have hvr := HV.out.fr0 hfr; have x0 := hvr.cell0 zag i hx rfl; have x1 := hvr.cell zag i 1 hx rfl; have x2 := hvr.cell zag i 2 hx rfl; have x3 := hvr.cell zag i 3 hx rfl; have x4 := hvr.cell zag i 4 hx rfl; have x5 := hvr.cell zag i 5 hx rfl; have x6 := hvr.cell zag i 6 hx rfl; have x7 := hvr.cell zag i 7 hx rfl; have x8 := hvr.cell zag i 8 hx rfl; have x9 := hvr.cell zag i 9 hx rfl; have hil : (i : Int) < (ops.length : Int) := (by omega)
      have hnx : ∀ b, badB S p = b → (b = false → ∀ j, j < i + 1 → ∀ q, ops[j]? = some q → badB S q = false) ∧ (b = true → whenAll S ops = whenE S p.rg.rev) := fun b hb =>
       ⟨fun h j hj q hq => by
         by_cases hji : j = i
         · subst hji; rw [hx] at hq; cases hq; rw [hb, h]
         exact HJ.out j (by omega) q hq, fun h => zqg HJ.out hx (by rw [hb, h])⟩
      have HNX := H_ hnx; clear hx hvr hnx; obtain ⟨p1, ⟨g1, g2, g3, g4, g5, g6, g7⟩, p2, p3⟩ := p; by_cases hk : p1 = 3
      · subst hk
        generalize hu : whenE S g3 = u at *; have HU := H_ hu; clear hu; by_cases hu0 : u = 0
        · subst hu0
          have HB : Hid (badB S ⟨3, ⟨g1, g2, g3, g4, g5, g6, g7⟩, p2, p3⟩ = false) := H_ (by unfold badB; dsimp only; rw [HU.out]; rfl); go_wp2_with (go_at_call 84; refine (zdg _ s S F ((HS.out.fr0 hT hfr).fr0 hT ((Fr.refl No wr).alloc _)) g3).mono ?_; rintro e w' ⟨rfl, rfl⟩; rw [HU.out]); go_roundg g
          case rel => exact ⟨i + 1, by go_num, by omega, H_ (HF.out.alloc _), H_ ((HNX.out _ HB.out).1 rfl)⟩
          case measure => omega
        have hu1 : (u == 0) = false := by simpa using hu0
        have HB : Hid (badB S ⟨3, ⟨g1, g2, g3, g4, g5, g6, g7⟩, p2, p3⟩ = true) := H_ (by unfold badB; dsimp only; rw [HU.out]; simpa using hu0); go_wp2_with (go_at_call 84; refine (zdg _ s S F ((HS.out.fr0 hT hfr).fr0 hT ((Fr.refl No wr).alloc _)) g3).mono ?_; rintro e w' ⟨rfl, rfl⟩; rw [HU.out]); go_ret3; refine ⟨?_, hfr.alloc _⟩; have h1 := (HNX.out _ HB.out).2 rfl; rw [h1]
        rfl
      have hk' : (p1 == 3) = false := by simpa using hk
      have HB : Hid (badB S ⟨p1, ⟨g1, g2, g3, g4, g5, g6, g7⟩, p2, p3⟩ = false) := H_ (by unfold badB; dsimp only; rw [hk']; rfl); go_wp2; go_roundg g
      case rel => exact ⟨i + 1, by go_num, by omega, H_ (HF.out.alloc _), H_ ((HNX.out _ HB.out).1 rfl)⟩
      case measure => omega
 have hap : applyE S ops = checkE ops := by unfold applyE; rw [if_pos hc]
 rw [hap] at he ⊢
 have hc' : (checkE ops == 0) = false := (by simpa using hc); generalize checkE ops = u at *; have HCH := H_ hch; clear hv hva hS hch hap hks; go_enter Tryz.func37, Tryz.ntmps37; go_wp2_with (go_at_call 83; refine (HCH.out _ (HV.out.alloc _)).mono ?_; rintro e w1 ⟨rfl, hf1⟩); go_ret3; exact ⟨rfl, ((Fr.refl No w).alloc _).trans0 hf1⟩
set_option maxHeartbeats 4000000 in
theorem zfl {TA : zao} {N : Nat} (hT : TreeOk TA N) {n : Nat} (hn : n ≤ 1099511627) (w : World) (s : Nat) (S : St) (F : Nat → Prop) (hS : zaj TA w s S F) (hok : StOk n S) (hN : S.T.length ≤ 1099511627) (g : Rg)
 (hks : g.key.size ≤ 1099511627776) (hE : rangeE S g = 0) :
 Calls Tryz.prog 46 #[.pointer (some ⟨s, 0, none⟩), rgV g] w fun e w' => ∃ v, e = .returned (.tuple #[v, .int .i64 (allL S g S.rev).length, .bool (moreB S g S.rev), .int .i64 0]) ∧ SlF w' 99 6 kvC v (getL S g S.rev) ∧ Fr No w w' ∧ (∀ b, v.ownBlock = some b → w.heap.size ≤ b) := by
 have ha := fun W => zfh W g hks; have hw := fun W (h : Fr No w W) => zdg W s S F (hS.fr0 hT h) g.rev; have hg := fun W (h : Fr No w W) => zgu hT hn W s S F (hS.fr0 hT h) hok hN g S.rev hks
 have c3 : ∀ W, Fr No w W → W.cell? ⟨s, 3, none⟩ = some (.int .i64 S.rev) := fun W hW => by
  obtain ⟨t, p, ev, hp, FT, FH, a, hF⟩ := hS; exact hW.cell0 (a.obj.cell 3 rfl)
 have h0 : askE g = 0 ∧ whenE S g.rev = 0 := by
  unfold rangeE at hE; by_cases h : askE g = 0
  · rw [if_neg (by simpa using h)] at hE; exact ⟨h, hE⟩
  rw [if_pos h] at hE; exact absurd hE h
 rw [h0.1] at ha; rw [h0.2] at hw; obtain ⟨g1, g2, g3, g4, g5, g6, g7⟩ := g; generalize hal : allL S ⟨g1, g2, g3, g4, g5, g6, g7⟩ S.rev = al at *; generalize hmo : moreB S ⟨g1, g2, g3, g4, g5, g6, g7⟩ S.rev = mo at *; generalize hgl : getL S ⟨g1, g2, g3, g4, g5, g6, g7⟩ S.rev = gl at *; unfold rgV at *; dsimp only at *; have HA := H_ ha; have HW := H_ hw; have HG := H_ hg; have HC := H_ c3; clear ha hw hg c3 hE h0 hks hS hok hN hal hmo hgl; go_enter Tryz.func46, Tryz.ntmps46
 go_upto_region 8 with (first
  | (go_at_call 97; refine (HA.out _).mono ?_; rintro e w1 ⟨rfl, hf⟩
     have hf1 : Fr No w w1 := ((Fr.refl No w).alloc _).trans0 hf; have hb : w1.heap[w.heap.size]? = some (.cells #[.string g1, .string g2, .int .i64 g3, .int .i64 g4, .bool g5, .bool g6, .bool g7] 35 (0, 0)) := hf.heap (zad _ _ _ rfl) id; have x0 : w1.cell? ⟨w.heap.size, 0, none⟩ = some (.string g1) := (by simp [World.cell?, hb]); have x1 : w1.cell? ⟨w.heap.size, 1, none⟩ = some (.string g2) := (by simp [World.cell?, hb]); have x2 : w1.cell? ⟨w.heap.size, 2, none⟩ = some (.int .i64 g3) := (by simp [World.cell?, hb]); have x3 : w1.cell? ⟨w.heap.size, 3, none⟩ = some (.int .i64 g4) := (by simp [World.cell?, hb]); have x4 : w1.cell? ⟨w.heap.size, 4, none⟩ = some (.bool g5) := (by simp [World.cell?, hb]); have x5 : w1.cell? ⟨w.heap.size, 5, none⟩ = some (.bool g6) := (by simp [World.cell?, hb]); have x6 : w1.cell? ⟨w.heap.size, 6, none⟩ = some (.bool g7) := (by simp [World.cell?, hb])
     have lx := zaa hb; have y := HC.out _ hf1; have ly := World.block_lt_of_cell? _ _ y)
  | (go_at_call 84; refine (HW.out _ hf1).mono ?_; rintro e w2 ⟨rfl, rfl⟩))
 go_region_held (fun W => W.cell? ⟨s, 3, none⟩ = some (.int .i64 S.rev) ∧ W.cell? ⟨w.heap.size, 0, none⟩ = some (.string g1) ∧ W.cell? ⟨w.heap.size, 1, none⟩ = some (.string g2) ∧ W.cell? ⟨w.heap.size, 2, none⟩ = some (.int .i64 g3) ∧
  W.cell? ⟨w.heap.size, 3, none⟩ = some (.int .i64 g4) ∧ W.cell? ⟨w.heap.size, 4, none⟩ = some (.bool g5) ∧ W.cell? ⟨w.heap.size, 5, none⟩ = some (.bool g6) ∧ W.cell? ⟨w.heap.size, 6, none⟩ = some (.bool g7))
  (first | exact ⟨y, x0, x1, x2, x3, x4, x5, x6⟩ | exact ⟨hf3.cell0 y, hf3.cell0 x0, hf3.cell0 x1, hf3.cell0 x2, hf3.cell0 x3, hf3.cell0 x4, hf3.cell0 x5, hf3.cell0 x6⟩)
  (first | (go_at_call 89; refine (HG.out _ hf1.drew).mono ?_; rintro e w3 ⟨v, rfl, hv, hf3, hvn⟩; obtain ⟨va, vcap, rfl, hc1, hc2, hva⟩ := hv.shape; have HV := H_ hv; have HVN := H_ hvn; clear hv hvn))
 go_wp2
 (try simp only [Exit.inBlock, Exit.then]); refine bodyPost_ret (zca rfl _ _ _) rfl ?_
 have hsz := hf1.size; exact ⟨_, rfl, HV.out, hf1.drew.trans0 hf3, fun b hb => Nat.le_trans hsz (HVN.out b hb)⟩
theorem zcw (q : ByteArray × Int) (X : Pairs) (k : ByteArray) : getT (q :: X) k = if keq q.1 k then (q.2, true) else getT X k := by
 unfold getT; rw [List.find?_cons]; cases h : keq q.1 k <;> simp
theorem zcv (T : Pairs) (k : ByteArray) (m : Int) (k' : ByteArray) : getT (insT T k m) k' = if keq k k' then (m, true) else getT T k' := by
 induction T with
 | nil =>
   unfold insT; rw [zcw]
 | cons p T ih =>
   unfold insT
   split
   · rename_i h
     rw [zcw, zcw, ih]; cases h1 : keq p.1 k' <;> cases h2 : keq k k' <;> simp
     have e1 := zar.1 h1; have e2 := zar.1 h2; rw [e1, e2, zaz] at h; cases h
   split
   · rename_i h2
     rw [zcw, zcw]
     cases h1 : keq k k' with
     | true => simp
     | false =>
       have : keq p.1 k' = false := (by rw [zar.1 h2]; exact h1); simp [this]
   rw [zcw]
theorem zvg {T : Pairs} {k : ByteArray} {m : Int} {q : ByteArray × Int} (h : q ∈ insT T k m) : q ∈ T ∨ q = (k, m) := by
 induction T with
 | nil => exact .inr (by simpa [insT] using h)
 | cons p T ih =>
   unfold insT at h
   split at h
   · rcases List.mem_cons.1 h with h | h
     · exact .inl (by simp [h])
     rcases ih h with h | h
     · exact .inl (by simp [h])
     exact .inr h
   split at h
   · rcases List.mem_cons.1 h with h | h
     · exact .inr h
     exact .inl (by simp [h])
   rcases List.mem_cons.1 h with h | h
   · exact .inr h
   exact .inl h
theorem zfc {T : Pairs} {k : ByteArray} (h : (getT T k).2 = true) : (k, (getT T k).1) ∈ T := by
 unfold getT at h ⊢
 cases hf : T.find? fun p => keq p.1 k with
 | none => rw [hf] at h; cases h
 | some p =>
   have h1 := List.mem_of_find?_eq_some hf; have h2 := List.find?_some hf; have h3 := zar.1 h2; obtain ⟨a, b⟩ := p; dsimp only at h3 ⊢
   subst h3; exact h1
theorem zdw {α : Type} {l : List α} {i : Nat} {f : α → α} {y : α} (h : y ∈ l.modify i f) : ∃ x ∈ l, y = x ∨ y = f x := by
 obtain ⟨j, hj⟩ := List.mem_iff_getElem?.1 h; rw [List.getElem?_modify] at hj
 cases hx : l[j]? with
 | none => rw [hx] at hj; simp at hj
 | some x =>
   rw [hx] at hj; refine ⟨x, List.mem_of_getElem? hx, ?_⟩; by_cases hi : i = j
   · right; simpa [hi] using hj.symm
   left; simpa [hi] using hj.symm
theorem HistOk.mono {n m : Nat} {H : Hist} (h : HistOk n H) (hm : n ≤ m) : HistOk m H :=
 ⟨Nat.le_trans h.len hm, fun x hx => ⟨Nat.le_trans (h.puts x hx).1 hm, (h.puts x hx).2⟩⟩
theorem zth (n : Nat) : HistOk n newH := ⟨by simp [newH], by simp [newH]⟩
theorem zws {n : Nat} {H : Hist} (h : HistOk n H) (x : Kv) (h1 : 1 ≤ x.mod) (h2 : x.mod ≤ top) : HistOk (n + 1) (putH H x) := by
 unfold putH putK; refine ⟨?_, fun y hy => ?_⟩
 · have := h.len
   dsimp only
   split
   · rw [List.length_modify]; omega
   simp; omega
 dsimp only at hy
 split at hy
 · obtain ⟨z, hz, e | e⟩ := zdw hy
   · subst e
     exact ⟨Nat.le_succ_of_le (h.puts y hz).1, (h.puts y hz).2⟩
   subst e
   have := h.puts z hz; refine ⟨by simp; omega, this.2.1, this.2.2.1, fun p hp => ?_⟩; rcases List.mem_append.1 hp with hp | hp
   · exact this.2.2.2 p hp
   rw [List.mem_singleton.1 hp]; exact ⟨h1, h2⟩
 rcases List.mem_append.1 hy with hy | hy
 · exact ⟨Nat.le_succ_of_le (h.puts y hy).1, (h.puts y hy).2⟩
 rw [List.mem_singleton.1 hy]
 refine ⟨by simp, by simp, by simp [top], fun p hp => ?_⟩; rw [List.mem_singleton.1 hp]; exact ⟨h1, h2⟩
theorem zus {n : Nat} {H : Hist} (h : HistOk n H) (rev : Int) : HistOk n (tombH H rev) := by
 unfold tombH tombK; refine ⟨by rw [List.length_modify]; exact h.len, fun y hy => ?_⟩; obtain ⟨z, hz, e | e⟩ := zdw hy
 · subst e; exact h.puts y hz
 subst e; exact h.puts z hz
theorem StOk.mono {n m : Nat} {S : St} (h : StOk n S) (hm : n ≤ m) : StOk m S :=
 { h with next := Int.le_trans h.next (by omega), hist := fun i H hi => ⟨(h.hist i H hi).1.mono hm, (h.hist i H hi).2⟩, ev := Nat.le_trans h.ev hm }
theorem zvi {n : Nat} {S : St} (h : StOk n S) (key : ByteArray) :
 StOk (n + 1) (madeS S key) ∧ (0 ≤ idS S key ∧ idS S key < (madeS S key).next) ∧ ∃ H, (madeS S key).past (idS S key) = some H ∧ HistOk n H ∧ H.last ≤ top := by
 unfold madeS idS
 cases hg : (getT S.T key).2 with
 | true =>
   simp only [if_true]; obtain ⟨H, hH⟩ := h.id _ (zfc hg); exact ⟨h.mono (by omega), h.ids _ H hH, H, hH, (h.hist _ H hH).1, (h.hist _ H hH).2⟩
 | false =>
   simp only [if_false, Bool.false_eq_true]; refine ⟨{ pos := by have := h.pos; dsimp only; omega, next := by have := h.next; dsimp only; omega, id := fun p hp => ?_, ids := fun i H hi => ?_, hist := fun i H hi => ?_, rev0 := h.rev0, rev1 := h.rev1, mark0 := h.mark0, ev := Nat.le_succ_of_le h.ev }, ⟨h.pos, by omega⟩, newH, by simp, zth n, by simp [newH, top]⟩
   · dsimp only at hp ⊢
     by_cases e : p.2 = S.next
     · exact ⟨newH, by rw [if_pos e]⟩
     rw [if_neg e]
     rcases zvg hp with hp | hp
     · exact h.id p hp
     exact absurd (by rw [hp]) e
   · dsimp only at hi ⊢
     have := h.pos; by_cases e : i = S.next
     · omega
     rw [if_neg e] at hi
     have := h.ids i H hi; omega
   dsimp only at hi
   by_cases e : i = S.next
   · rw [if_pos e] at hi
     obtain rfl := Option.some.inj hi; exact ⟨zth _, by simp [newH, top]⟩
   rw [if_neg e] at hi
   exact ⟨(h.hist i H hi).1.mono (by omega), (h.hist i H hi).2⟩
theorem zwr {n : Nat} {S : St} (h : StOk n S) (x : Kv) (h1 : 1 ≤ x.mod) (h2 : x.mod ≤ top) : StOk (n + 1) (putS S x) := by
 obtain ⟨hm, hid, H0, hH0, hk0, hl0⟩ := zvi h x.key; unfold putS; rw [hH0]; refine { pos := hm.pos, next := hm.next, id := fun p hp => ?_, ids := fun i H hi => ?_, hist := fun i H hi => ?_, rev0 := hm.rev0, rev1 := hm.rev1, mark0 := hm.mark0, ev := hm.ev }
 · dsimp only
   split
   · exact ⟨_, rfl⟩
   exact hm.id p hp
 · dsimp only at hi ⊢
   split at hi
   · rename_i e; rw [e]; exact hid
   exact hm.ids i H hi
 dsimp only at hi
 split at hi
 · obtain rfl := Option.some.inj hi
   exact ⟨zws hk0 x h1 h2, h2⟩
 exact hm.hist i H hi
theorem zur {n : Nat} {S : St} (h : StOk n S) (x : Kv) (h2 : x.mod ≤ top) : StOk n (tombS S x) := by
 unfold tombS
 split
 · rename_i hg
   refine { pos := h.pos, next := h.next, id := fun p hp => ?_, ids := fun i H hi => ?_, hist := fun i H hi => ?_, rev0 := h.rev0, rev1 := h.rev1, mark0 := h.mark0, ev := h.ev }
   · dsimp only
     split
     · obtain ⟨H, hH⟩ := h.id _ (zfc hg)
       dsimp only at hH; exact ⟨_, by rw [hH]; rfl⟩
     exact h.id p hp
   · dsimp only at hi ⊢
     split at hi
     · rename_i e
       cases hH : S.past (getT S.T x.key).1 with
       | none => rw [hH] at hi; cases hi
       | some H0 => rw [e]; exact h.ids _ H0 hH
     exact h.ids i H hi
   dsimp only at hi
   split at hi
   · cases hH : S.past (getT S.T x.key).1 with
     | none => rw [hH] at hi; cases hi
     | some H0 =>
       rw [hH] at hi; obtain rfl := Option.some.inj hi; exact ⟨zus (h.hist _ H0 hH).1 _, h2⟩
   exact h.hist i H hi
 exact h
theorem zwc {n : Nat} {S : St} (h : StOk n S) (x : Ev) (h1 : 1 ≤ x.kv.mod) (h2 : x.kv.mod ≤ top) : StOk (n + 1) (doneS S x) := by
 unfold doneS
 split
 · exact zwr h _ h1 h2
 exact (zur h _ h2).mono (by omega)
theorem doS_ok {n : Nat} {S : St} (h : StOk n S) (x : Ev) (h1 : 1 ≤ x.kv.mod) (h2 : x.kv.mod ≤ top) : StOk (n + 1) (doS S x) := by
 have hd := zwc h x h1 h2; have he := zex S x; unfold doS; refine { hd with ev := ?_ }; dsimp only; rw [he]; have := h.ev; simp; omega
theorem StOk.setRev {n : Nat} {S : St} (h : StOk n S) (r : Int) (h0 : -top ≤ r) (h1 : r ≤ top) : StOk n { S with rev := r } := { h with rev0 := h0, rev1 := h1 }
def rg0 (key : ByteArray) : Rg := ⟨key, ByteArray.empty, 0, 0, false, false, false⟩
def bA : ByteArray := ⟨#[97]⟩
def bB : ByteArray := ⟨#[98]⟩
def b1 : ByteArray := ⟨#[49]⟩
def b2 : ByteArray := ⟨#[50]⟩
def putO (k v : ByteArray) : Opr := ⟨1, rg0 k, v, 0⟩
def getO (k : ByteArray) : Opr := ⟨3, rg0 k, ByteArray.empty, 0⟩
theorem zte {α : Type} {a o : α} {i : Nat} (h : [a][i]? = some o) : i = 0 ∧ o = a := by
 cases i with
 | zero => simp at h; exact ⟨rfl, h.symm⟩
 | succ i => simp at h
theorem zjr {W : World} {b : Nat} {o : Opr} {t : TypeId} (h : W.heap[b]? = some (.cells (opC o).toArray t (0, 0))) : SlR W 10 opC (.slice (some ⟨b, 0, none⟩) 1 1) [o] := by
 refine ⟨_, 1, rfl, by simp, by decide, fun _ => ⟨b, 0, rfl, fun i x hx j u hu => ?_⟩⟩; obtain ⟨rfl, rfl⟩ := zte hx; unfold World.cell?; simp only [h, Nat.zero_mul, Nat.zero_add, Option.isSome_none, Bool.false_eq_true, if_false]; simpa using hu
def onlyL : List Kv → Kv
 | [x] => x
 | _ => kv0
def seenS (S : St) (key : ByteArray) : Kv := onlyL (allL S (rg0 key) S.rev)
def orderC (c : Cmp) (x : Kv) : Int := if c.what = 1 ∨ c.what = 2 ∨ c.what = 3 ∨ c.what = 5 then sgnI (sideN c x) c.number else sgnS x.value c.value
def holdsB (S : St) (c : Cmp) : Bool := cmpE c == 0 && orderC c (seenS S c.key) == sgnI c.how 0
theorem zmv (w : World) (s : Nat) (c : Cmp) (hs : c.key.size ≤ 1099511627776) (hE : cmpE c ≠ 0) : Calls Tryz.prog 31 #[.pointer (some ⟨s, 0, none⟩), cmpV c] w fun e w' => e = .returned (.bool false) ∧ Fr No w w' := by
 have hc := fun W => zde W c hs; obtain ⟨c1, c2, c3, c4, c5⟩ := c; unfold cmpV at *; dsimp only at *; generalize cmpE _ = k at *; have hE' : (k == 0) = false := by simpa using hE
 clear hE hs; have HC := H_ hc; clear hc; go_enter Tryz.func31, Tryz.ntmps31; go_wp2_with (go_at_call 75; refine (HC.out _).mono ?_; rintro e w1 ⟨rfl, hf⟩); go_ret; exact ⟨rfl, ((Fr.refl No w).alloc _).trans0 hf⟩
theorem as33t (v : Value) (w : World) : (Instr.typeAssert (.iface 3 v) 20 3 true).run Tryz.prog w = .ok (.tuple #[v, .bool true]) w := by kernel_rfl
theorem as33f (v : Value) (w : World) : (Instr.typeAssert (.iface 3 v) 20 3 false).run Tryz.prog w = .ok v w := by kernel_rfl
theorem as93t (v : Value) (w : World) : (Instr.typeAssert (.iface 9 v) 20 3 true).run Tryz.prog w = .ok (.tuple #[.int .i64 0, .bool false]) w := by kernel_rfl
theorem as99f (v : Value) (w : World) : (Instr.typeAssert (.iface 9 v) 20 9 false).run Tryz.prog w = .ok v w := by kernel_rfl
set_option maxHeartbeats 4000000 in
theorem zim {TA : zao} {N : Nat} (hT : TreeOk TA N) {n : Nat} (hn : n ≤ 1099511627) (w : World) (s : Nat) (S : St) (F : Nat → Prop) (hS : zaj TA w s S F) (hok : StOk n S) (hN : S.T.length ≤ 1099511627) (hr0 : 0 ≤ S.rev) (c : Cmp)
 (hs : c.key.size ≤ 1099511627776) (hE : cmpE c = 0) :
 Calls Tryz.prog 31 #[.pointer (some ⟨s, 0, none⟩), cmpV c] w fun e w' => e = .returned (.bool (holdsB S c)) ∧ Fr No w w' := by
 have hc := fun W => zde W c hs
 have hk : keyE c.key = 0 := by
  unfold cmpE at hE; by_cases h : keyE c.key ≠ 0
  · rw [if_pos h] at hE; exact absurd hE h
  simpa using h
 have hre : rangeE S (rg0 c.key) = 0 := by
  unfold rangeE askE whenE rg0; dsimp only; rw [hk]; have : ByteArray.empty.size = 0 := rfl; simp [this]; omega
 have hrg := fun W (h : Fr No w W) => zfl hT hn W s S F (hS.fr0 hT h) hok hN (rg0 c.key) hs hre; have hmo : moreB S (rg0 c.key) S.rev = false := by unfold moreB rg0; simp
 have hgl : getL S (rg0 c.key) S.rev = allL S (rg0 c.key) S.rev := by unfold getL; rw [hmo]; rfl
 have hh : holdsB S c = (orderC c (seenS S c.key) == sgnI c.how 0) := by unfold holdsB; rw [hE]; rfl
 rw [hE] at hc; rw [hgl] at hrg; rw [hh]; unfold seenS; generalize allL S (rg0 c.key) S.rev = L at *; generalize moreB S (rg0 c.key) S.rev = mo at *; obtain ⟨c1, c2, c3, c4, c5⟩ := c; unfold rg0 rgV at hrg; unfold cmpV at *; dsimp only at *; have HC := H_ hc; have HR := H_ hrg; clear hc hrg hE hk hre hgl hh hmo hs hS; go_enter Tryz.func31, Tryz.ntmps31
 go_upto_if 34 with (first
  | (go_at_call 75; refine (HC.out _).mono ?_; rintro e w1 ⟨rfl, hf⟩
     have hf1 : Fr No w w1 := ((Fr.refl No w).alloc _).trans0 hf; have hb : w1.heap[w.heap.size]? = some (.cells #[.string c1, .int .i64 c2, .int .i64 c3, .int .i64 c4, .string c5] 53 (0, 0)) := hf.heap (zad _ _ _ rfl) id; have x0 : w1.cell? ⟨w.heap.size, 0, none⟩ = some (.string c1) := (by simp [World.cell?, hb]); have lx := zaa hb)
  | (go_at_call 46; refine (HR.out _ (hf1.alloc _)).mono ?_; rintro e w2 ⟨v, rfl, hv, hf2, hvn⟩; obtain ⟨va, vcap, rfl, hc1, hc2, hva⟩ := hv.shape
     have hb2 := hf2.heap (zad w1 (Obj.cells #[.string ByteArray.empty, .string ByteArray.empty, .int .i64 0, .int .i64 0, .int .i64 0, .int .i64 0] 99) _ rfl) id; have hbx2 := hf2.heap (((Fr.refl No w1).alloc (Obj.cells #[.string ByteArray.empty, .string ByteArray.empty, .int .i64 0, .int .i64 0, .int .i64 0, .int .i64 0] 99)).heap hb id) id; have hfw2 : Fr No w w2 := (hf1.alloc _).trans0 hf2; have l2 := zaa hb2))
 have HB2 := H_ hb2; have HBX2 := H_ hbx2; have HV := H_ hv; have HVN := H_ hvn; have HVA := H_ hva; have hsz1 := hf1.size; clear hb2 hbx2 hv hvn hva hf hb x0
 go_cut [35, 36, 37] (fun s35 s36 s37 wx => Hid (wx.heap[w.heap.size]? = some (.cells #[.string c1, .int .i64 c2, .int .i64 c3, .int .i64 c4, .string c5] 53 (0, 0))) ∧
  Hid (wx.heap[w1.heap.size]? = some (.cells #[.string (onlyL L).key, .string (onlyL L).value, .int .i64 (onlyL L).create, .int .i64 (onlyL L).mod, .int .i64 (onlyL L).version, .int .i64 (onlyL L).lease] 99 (0, 0))) ∧ Hid (Fr No w wx))
 case first =>
  by_cases h1 : L.length = 1
  · obtain ⟨x, rfl⟩ := List.length_eq_one_iff.1 h1
    obtain ⟨gb, go, rfl⟩ := HVA.out (by simp); obtain ⟨x1, x2, x3, x4, x5, x6⟩ := x; have y0 : w2.cell? ⟨gb, go, none⟩ = some (.string x1) := (by simpa using HV.out.cell zaf 0 0 rfl rfl); have y1 : w2.cell? ⟨gb, go + 1, none⟩ = some (.string x2) := (by simpa using HV.out.cell zaf 0 1 rfl rfl); have y2 : w2.cell? ⟨gb, go + 2, none⟩ = some (.int .i64 x3) := (by simpa using HV.out.cell zaf 0 2 rfl rfl); have y3 : w2.cell? ⟨gb, go + 3, none⟩ = some (.int .i64 x4) := (by simpa using HV.out.cell zaf 0 3 rfl rfl); have y4 : w2.cell? ⟨gb, go + 4, none⟩ = some (.int .i64 x5) := (by simpa using HV.out.cell zaf 0 4 rfl rfl); have y5 : w2.cell? ⟨gb, go + 5, none⟩ = some (.int .i64 x6) := (by simpa using HV.out.cell zaf 0 5 rfl rfl); have z0 : w2.cell? ⟨w1.heap.size, 0, none⟩ = some (.string ByteArray.empty) := (by simp [World.cell?, HB2.out])
    have z1 : w2.cell? ⟨w1.heap.size, 1, none⟩ = some (.string ByteArray.empty) := (by simp [World.cell?, HB2.out]); have z2 : w2.cell? ⟨w1.heap.size, 2, none⟩ = some (.int .i64 0) := (by simp [World.cell?, HB2.out]); have z3 : w2.cell? ⟨w1.heap.size, 3, none⟩ = some (.int .i64 0) := (by simp [World.cell?, HB2.out]); have z4 : w2.cell? ⟨w1.heap.size, 4, none⟩ = some (.int .i64 0) := (by simp [World.cell?, HB2.out]); have z5 : w2.cell? ⟨w1.heap.size, 5, none⟩ = some (.int .i64 0) := (by simp [World.cell?, HB2.out]); have hfz : ∀ i, w2.frozen? ⟨w1.heap.size, i, none⟩ = false := fun i => by simp [World.frozen?, HB2.out]
    go_wp2; go_meet
    case rel =>
     obtain ⟨Z, hZ, hz6, hzf⟩ := zes (w := w) HB2.out ⟨x1, x2, x3, x4, x5, x6⟩; dsimp only at hZ hz6; rw [hZ]; have hFb : Fr (fun b => b = w1.heap.size) w2 Z := (by rw [← hZ]; exact ((((((Fr.refl _ w2).setAt 0 _).setAt 1 _).setAt 2 _).setAt 3 _).setAt 4 _).setAt 5 _); exact ⟨H_ (hFb.heap HBX2.out (fun e => by have e' : w.heap.size = w1.heap.size := e; omega)), H_ hz6, H_ (hzf hfw2 (by omega))⟩
  have h1' : ((L.length : Int) == 1) = false := by simpa using (show ¬ (L.length : Int) = 1 by omega)
  have hk : onlyL L = kv0 := by
   match L, h1 with
   | [], _ => rfl
   | [_], h => simp at h
   | _ :: _ :: _, _ => rfl
  have HK := H_ hk; clear hk; go_wp2; go_meet
  case rel => exact ⟨HBX2, H_ (by rw [HK.out]; exact HB2.out), H_ hfw2⟩
 case rest =>
  obtain ⟨HA, HB, HF⟩ := hcut; generalize hkk : onlyL L = k at *; have HKK := H_ hkk; clear hkk; obtain ⟨k1, k2, k3, k4, k5, k6⟩ := k; have a0 : wc.cell? ⟨w.heap.size, 0, none⟩ = some (.string c1) := (by simp [World.cell?, HA.out]); have a1 : wc.cell? ⟨w.heap.size, 1, none⟩ = some (.int .i64 c2) := (by simp [World.cell?, HA.out]); have a2 : wc.cell? ⟨w.heap.size, 2, none⟩ = some (.int .i64 c3) := (by simp [World.cell?, HA.out]); have a3 : wc.cell? ⟨w.heap.size, 3, none⟩ = some (.int .i64 c4) := (by simp [World.cell?, HA.out]); have a4 : wc.cell? ⟨w.heap.size, 4, none⟩ = some (.string c5) := (by simp [World.cell?, HA.out]); have b0 : wc.cell? ⟨w1.heap.size, 0, none⟩ = some (.string k1) := (by simp [World.cell?, HB.out]); have b1 : wc.cell? ⟨w1.heap.size, 1, none⟩ = some (.string k2) := (by simp [World.cell?, HB.out])
  have b2 : wc.cell? ⟨w1.heap.size, 2, none⟩ = some (.int .i64 k3) := (by simp [World.cell?, HB.out]); have b3 : wc.cell? ⟨w1.heap.size, 3, none⟩ = some (.int .i64 k4) := (by simp [World.cell?, HB.out]); have b4 : wc.cell? ⟨w1.heap.size, 4, none⟩ = some (.int .i64 k5) := (by simp [World.cell?, HB.out]); have b5 : wc.cell? ⟨w1.heap.size, 5, none⟩ = some (.int .i64 k6) := (by simp [World.cell?, HB.out]); have la := zaa HA.out; have lb := zaa HB.out; have hsd := fun W => znc W ⟨c1, c2, c3, c4, c5⟩ ⟨k1, k2, k3, k4, k5, k6⟩; have hor : orderC ⟨c1, c2, c3, c4, c5⟩ ⟨k1, k2, k3, k4, k5, k6⟩ = if c2 = 1 ∨ c2 = 2 ∨ c2 = 3 ∨ c2 = 5 then sgnI (sideN ⟨c1, c2, c3, c4, c5⟩ ⟨k1, k2, k3, k4, k5, k6⟩) c4 else sgnS k2 c5 := rfl; unfold sidesV cmpV kvV at hsd; dsimp only at hsd; generalize sideN ⟨c1, c2, c3, c4, c5⟩ ⟨k1, k2, k3, k4, k5, k6⟩ = sn at *; have t1 := as33t; have t2 := as33f; have t3 := as93t
  have t4 := as99f; by_cases hw : c2 = 1 ∨ c2 = 2 ∨ c2 = 3 ∨ c2 = 5
  · simp only [if_pos hw] at hsd
    rw [if_pos hw] at hor; have HSD := H_ hsd; have HO := H_ hor; clear hsd hor hw
    go_wp2_with (first
     | (go_at_call 76; refine (HSD.out _).mono ?_; rintro e w3 ⟨rfl, hf3⟩
        have a2' := hf3.cell0 a2)
     | (go_at_call 77; refine (zje _ _ _).mono ?_; rintro e w4 ⟨rfl, rfl⟩))
    go_ret; exact ⟨by rw [HKK.out, HO.out]; rfl, HF.out.trans0 hf3⟩
  simp only [if_neg hw] at hsd
  rw [if_neg hw] at hor; have HSD := H_ hsd; have HO := H_ hor; clear hsd hor hw
  go_upto_region 12 with (first
   | (go_at_call 76; refine (HSD.out _).mono ?_; rintro e w3 ⟨rfl, hf3⟩
      have a2' := hf3.cell0 a2))
  have a3' := a2'
  go_region_held (fun W => W.cell? ⟨w.heap.size, 2, none⟩ = some (.int .i64 c3)) (first | assumption) (first | (go_at_call 78; refine (zql _ _ _).mono ?_; rintro e w4 ⟨rfl, rfl⟩))
  go_wp2_with (first
   | (go_at_call 77; refine (zje _ _ _).mono ?_; rintro e w4 ⟨rfl, rfl⟩))
  all_goals (go_ret; exact ⟨by rw [HKK.out, HO.out]; rfl, HF.out.trans0 (by (repeat (first | exact hf3 | refine Fr.drew ?_)))⟩)
def KSorted (l : List Kv) : Prop := l.Pairwise fun a b => klt a.key b.key = true
def hasL (l : List Kv) (key : ByteArray) : Option Kv := l.find? fun k => keq k.key key
def doneL : List Kv → Ev → List Kv
 | [], x => if x.kind = 1 then [x.kv] else []
 | k :: l, x => if klt k.key x.kv.key = true then k :: doneL l x else (if x.kind = 1 then [x.kv] else []) ++ (if keq k.key x.kv.key = true then l else k :: l)
theorem zhs {l : List Kv} (h : KSorted l) (x : Ev) (y : Kv) : y ∈ doneL l x ↔ (x.kind = 1 ∧ y = x.kv) ∨ (y ∈ l ∧ keq y.key x.kv.key = false) := by
 induction l with
 | nil => unfold doneL; split <;> simp_all
 | cons k l ih =>
   obtain ⟨h1, h2⟩ := List.pairwise_cons.1 h; unfold doneL
   split
   · rename_i hk
     rw [List.mem_cons, ih h2, List.mem_cons]; have := klt_ne hk
     constructor
     · rintro (rfl | h | ⟨h, h'⟩)
       · exact .inr ⟨.inl rfl, this⟩
       · exact .inl h
       exact .inr ⟨.inr h, h'⟩
     rintro (h | ⟨rfl | h, h'⟩)
     · exact .inr (.inl h)
     · exact .inl rfl
     exact .inr (.inr ⟨h, h'⟩)
   rename_i hk
   have hk' : klt k.key x.kv.key = false := (by simpa using hk)
   have hl : ∀ z ∈ l, keq z.key x.kv.key = false := fun z hz => by
    have h3 := zet hk' (h1 z hz); rw [zbv]; exact klt_ne h3
   rw [List.mem_append]; refine or_congr ?_ ?_
   · split <;> simp_all
   split
   · rename_i he
     constructor
     · exact fun hy => ⟨List.mem_cons_of_mem _ hy, hl y hy⟩
     rintro ⟨hy, hy'⟩
     rcases List.mem_cons.1 hy with rfl | hy
     · rw [he] at hy'; cases hy'
     exact hy
   rename_i he
   constructor
   · intro hy
     refine ⟨hy, ?_⟩; rcases List.mem_cons.1 hy with rfl | hy
     · simpa using he
     exact hl y hy
   exact fun hy => hy.1
theorem zco {l : List Kv} (h : KSorted l) (x : Ev) : KSorted (doneL l x) := by
 induction l with
 | nil => unfold doneL KSorted; split <;> simp
 | cons k l ih =>
   obtain ⟨h1, h2⟩ := List.pairwise_cons.1 h; unfold doneL
   split
   · rename_i hk
     refine List.pairwise_cons.2 ⟨fun y hy => ?_, ih h2⟩; rcases (zhs h2 x y).1 hy with ⟨_, rfl⟩ | ⟨h3, _⟩
     · exact hk
     exact h1 y h3
   rename_i hk
   have hk' : klt k.key x.kv.key = false := (by simpa using hk); have hl : ∀ z ∈ l, klt x.kv.key z.key = true := fun z hz => zet hk' (h1 z hz); refine List.pairwise_append.2 ⟨by split <;> simp, ?_, fun a ha b hb => ?_⟩
   · split
     · exact h2
     exact h
   split at ha
   · obtain rfl := List.mem_singleton.1 ha
     split at hb
     · exact hl b hb
     rename_i he
     rcases List.mem_cons.1 hb with rfl | hb
     · rcases zdx x.kv.key b.key with e | e | e
       · exact e
       · exact absurd (zar.2 e.symm) he
       rw [e] at hk'; cases hk'
     exact hl b hb
   simp at ha
theorem zbi {l : List Kv} (h : KSorted l) (key : ByteArray) (y : Kv) : hasL l key = some y ↔ y ∈ l ∧ y.key = key := by
 constructor
 · intro hy
   exact ⟨List.mem_of_find?_eq_some hy, zar.1 (by simpa using List.find?_some hy)⟩
 rintro ⟨hy, rfl⟩
 unfold hasL
 induction l with
 | nil => cases hy
 | cons k l ih =>
   obtain ⟨h1, h2⟩ := List.pairwise_cons.1 h; rw [List.find?_cons]; rcases List.mem_cons.1 hy with rfl | hy
   · rw [zar.2 rfl]
   rw [klt_ne (h1 y hy)]
   exact ih h2 hy
theorem zta {α : Type} {a b : Option α} (h : ∀ y, a = some y ↔ b = some y) : a = b := by
 cases a with
 | none =>
   cases b with
   | none => rfl
   | some y => exact ((h y).2 rfl)
 | some x => exact ((h x).1 rfl).symm
theorem zcr {l : List Kv} (h : KSorted l) (x : Ev) (key : ByteArray) : hasL (doneL l x) key = if keq key x.kv.key = true then (if x.kind = 1 then some x.kv else none) else hasL l key := by
 refine zta fun y => ?_; rw [zbi (zco h x), zhs h]; by_cases hk : keq key x.kv.key = true
 · rw [if_pos hk]
   have hk' := zar.1 hk
   constructor
   · rintro ⟨⟨h1, rfl⟩ | ⟨_, h2⟩, h3⟩
     · rw [if_pos h1]
     rw [h3, hk] at h2; cases h2
   intro hy
   split at hy
   · rename_i h1
     obtain rfl := Option.some.inj hy; exact ⟨.inl ⟨h1, rfl⟩, hk'.symm⟩
   cases hy
 rw [if_neg hk, zbi h]
 constructor
 · rintro ⟨⟨h1, rfl⟩ | ⟨h1, _⟩, rfl⟩
   · exact absurd (zar.2 rfl) hk
   exact ⟨h1, rfl⟩
 rintro ⟨h1, rfl⟩
 exact ⟨.inr ⟨h1, by simpa using hk⟩, rfl⟩
theorem znp {l m : List Kv} (h : KSorted l) (h' : KSorted m) (he : ∀ key, hasL l key = hasL m key) : l = m := by
 have hm : ∀ y, y ∈ l ↔ y ∈ m := fun y => by
  have h1 := zbi h y.key y; have h2 := zbi h' y.key y; rw [he] at h1
  constructor
  · intro hy; exact (h2.1 (h1.2 ⟨hy, rfl⟩)).1
  intro hy; exact (h1.1 (h2.2 ⟨hy, rfl⟩)).1
 clear he
 induction l generalizing m with
 | nil =>
   cases m with
   | nil => rfl
   | cons b m => exact absurd ((hm b).2 List.mem_cons_self) (by simp)
 | cons a l ih =>
   obtain ⟨a1, a2⟩ := List.pairwise_cons.1 h
   cases m with
   | nil => exact absurd ((hm a).1 List.mem_cons_self) (by simp)
   | cons b m =>
     obtain ⟨b1, b2⟩ := List.pairwise_cons.1 h'
     have hab : a = b := by
      rcases List.mem_cons.1 ((hm a).1 List.mem_cons_self) with e | e
      · exact e
      rcases List.mem_cons.1 ((hm b).2 List.mem_cons_self) with e' | e'
      · exact e'.symm
      have h1 := b1 a e
      have h2 := zcd (a1 b e'); rw [h1] at h2; cases h2
     subst hab
     congr 1
     refine ih a2 b2 fun y => ?_
     constructor
     · intro hy
       rcases List.mem_cons.1 ((hm y).1 (List.mem_cons_of_mem _ hy)) with rfl | e
       · have := a1 y hy; rw [zaz] at this; cases this
       exact e
     intro hy
     rcases List.mem_cons.1 ((hm y).2 (List.mem_cons_of_mem _ hy)) with rfl | e
     · have := b1 y hy; rw [zaz] at this; cases this
     exact e
structure Doc where
 rev : Int
 mark : Int
 kvs : List Kv
 events : List Ev
def Doc.at (D : Doc) (r : Int) : List Kv := (D.events.filter fun e => decide (D.mark < e.kv.mod) && decide (e.kv.mod ≤ r)).foldl doneL D.kvs
theorem zbd {l : List Kv} (h : KSorted l) (es : List Ev) : KSorted (es.foldl doneL l) := by
 induction es generalizing l with
 | nil => exact h
 | cons e es ih => exact ih (zco h e)
theorem Doc.at_sorted {D : Doc} (h : KSorted D.kvs) (r : Int) : KSorted (D.at r) := zbd h _
end Go.Proofs.YthljnnjpmdgkoaaGreat