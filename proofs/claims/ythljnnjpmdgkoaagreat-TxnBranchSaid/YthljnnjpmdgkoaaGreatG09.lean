/- Own lemmas and contracts that the claim's proof needs, laid together. The conditions stand in each. -/
import Derived.Test.YthljnnjpmdgkoaaGreatG08
import Derived.Test.YthljnnjpmdgkoaaGreatG05
import Derived.Test.YthljnnjpmdgkoaaGreatG06
namespace Go.Proofs.YthljnnjpmdgkoaaGreat
open Go Go.Proofs Go.RowKit
set_option maxRecDepth 100000
theorem zcw (q : ByteArray × Int) (X : Pairs) (k : ByteArray) : getT (q :: X) k = if keq q.1 k then (q.2, true) else getT X k := by
 unfold getT; rw [List.find?_cons]; cases h : keq q.1 k <;> simp
theorem zcv (T : Pairs) (k : ByteArray) (m : Int) (k' : ByteArray) : getT (insT T k m) k' = if keq k k' then (m, true) else getT T k' := by
 induction T with
 | nil =>
   unfold insT; rw [zcw]
 | cons p T ih =>
   unfold insT
   split
   · rename_i h
     rw [zcw, zcw, ih]; cases h1 : keq p.1 k' <;> cases h2 : keq k k' <;> simp
     have e1 := zat.1 h1; have e2 := zat.1 h2; rw [e1, e2, zbg] at h; cases h
   · split
     · rename_i h2
       rw [zcw, zcw]
       cases h1 : keq k k' with
       | true => simp
       | false =>
         have : keq p.1 k' = false := (by rw [zat.1 h2]; exact h1); simp [this]
     · rw [zcw]
theorem zul {T : Pairs} {k : ByteArray} {m : Int} {q : ByteArray × Int} (h : q ∈ insT T k m) : q ∈ T ∨ q = (k, m) := by
 induction T with
 | nil => exact .inr (by simpa [insT] using h)
 | cons p T ih =>
   unfold insT at h
   split at h
   · rcases List.mem_cons.1 h with h | h
     · exact .inl (by simp [h])
     · rcases ih h with h | h
       · exact .inl (by simp [h])
       · exact .inr h
   · split at h
     · rcases List.mem_cons.1 h with h | h
       · exact .inr h
       · exact .inl (by simp [h])
     · rcases List.mem_cons.1 h with h | h
       · exact .inr h
       · exact .inl h
theorem zfg {T : Pairs} {k : ByteArray} (h : (getT T k).2 = true) : (k, (getT T k).1) ∈ T := by
 unfold getT at h ⊢
 cases hf : T.find? fun p => keq p.1 k with
 | none => rw [hf] at h; cases h
 | some p =>
   have h1 := List.mem_of_find?_eq_some hf; have h2 := List.find?_some hf; have h3 := zat.1 h2; obtain ⟨a, b⟩ := p; dsimp only at h3 ⊢
   subst h3; exact h1
theorem zdx {α : Type} {l : List α} {i : Nat} {f : α → α} {y : α} (h : y ∈ l.modify i f) : ∃ x ∈ l, y = x ∨ y = f x := by
 obtain ⟨j, hj⟩ := List.mem_iff_getElem?.1 h; rw [List.getElem?_modify] at hj
 cases hx : l[j]? with
 | none => rw [hx] at hj; simp at hj
 | some x =>
   rw [hx] at hj; refine ⟨x, List.mem_of_getElem? hx, ?_⟩; by_cases hi : i = j
   · right; simpa [hi] using hj.symm
   · left; simpa [hi] using hj.symm
theorem HistOk.mono {n m : Nat} {H : Hist} (h : HistOk n H) (hm : n ≤ m) : HistOk m H :=
 ⟨Nat.le_trans h.len hm, fun x hx => ⟨Nat.le_trans (h.puts x hx).1 hm, (h.puts x hx).2⟩⟩
theorem zss (n : Nat) : HistOk n newH := ⟨by simp [newH], by simp [newH]⟩
theorem zvx {n : Nat} {H : Hist} (h : HistOk n H) (x : Kv) (h1 : 1 ≤ x.mod) (h2 : x.mod ≤ top) : HistOk (n + 1) (putH H x) := by
 unfold putH putK; refine ⟨?_, fun y hy => ?_⟩
 · have := h.len
   dsimp only
   split
   · rw [List.length_modify]; omega
   · simp; omega
 · dsimp only at hy
   split at hy
   · obtain ⟨z, hz, e | e⟩ := zdx hy
     · subst e
       exact ⟨Nat.le_succ_of_le (h.puts y hz).1, (h.puts y hz).2⟩
     · subst e
       have := h.puts z hz; refine ⟨by simp; omega, this.2.1, this.2.2.1, fun p hp => ?_⟩; rcases List.mem_append.1 hp with hp | hp
       · exact this.2.2.2 p hp
       · rw [List.mem_singleton.1 hp]; exact ⟨h1, h2⟩
   · rcases List.mem_append.1 hy with hy | hy
     · exact ⟨Nat.le_succ_of_le (h.puts y hy).1, (h.puts y hy).2⟩
     · rw [List.mem_singleton.1 hy]
       refine ⟨by simp, by simp, by simp [top], fun p hp => ?_⟩; rw [List.mem_singleton.1 hp]; exact ⟨h1, h2⟩
theorem zty {n : Nat} {H : Hist} (h : HistOk n H) (rev : Int) : HistOk n (tombH H rev) := by
 unfold tombH tombK; refine ⟨by rw [List.length_modify]; exact h.len, fun y hy => ?_⟩; obtain ⟨z, hz, e | e⟩ := zdx hy
 · subst e; exact h.puts y hz
 · subst e; exact h.puts z hz
theorem StOk.mono {n m : Nat} {S : St} (h : StOk n S) (hm : n ≤ m) : StOk m S :=
 { h with next := Int.le_trans h.next (by omega), hist := fun i H hi => ⟨(h.hist i H hi).1.mono hm, (h.hist i H hi).2⟩, ev := Nat.le_trans h.ev hm }
theorem zun {n : Nat} {S : St} (h : StOk n S) (key : ByteArray) :
 StOk (n + 1) (madeS S key) ∧ (0 ≤ idS S key ∧ idS S key < (madeS S key).next) ∧ ∃ H, (madeS S key).past (idS S key) = some H ∧ HistOk n H ∧ H.last ≤ top := by
 unfold madeS idS
 cases hg : (getT S.T key).2 with
 | true =>
   simp only [if_true]; obtain ⟨H, hH⟩ := h.id _ (zfg hg); exact ⟨h.mono (by omega), h.ids _ H hH, H, hH, (h.hist _ H hH).1, (h.hist _ H hH).2⟩
 | false =>
   simp only [if_false, Bool.false_eq_true]; refine ⟨{ pos := by have := h.pos; dsimp only; omega, next := by have := h.next; dsimp only; omega, id := fun p hp => ?_, ids := fun i H hi => ?_, hist := fun i H hi => ?_, rev0 := h.rev0, rev1 := h.rev1, mark0 := h.mark0, ev := Nat.le_succ_of_le h.ev }, ⟨h.pos, by omega⟩, newH, by simp, zss n, by simp [newH, top]⟩
   · dsimp only at hp ⊢
     by_cases e : p.2 = S.next
     · exact ⟨newH, by rw [if_pos e]⟩
     · rw [if_neg e]
       rcases zul hp with hp | hp
       · exact h.id p hp
       · exact absurd (by rw [hp]) e
   · dsimp only at hi ⊢
     have := h.pos; by_cases e : i = S.next
     · omega
     · rw [if_neg e] at hi
       have := h.ids i H hi; omega
   · dsimp only at hi
     by_cases e : i = S.next
     · rw [if_pos e] at hi
       obtain rfl := Option.some.inj hi; exact ⟨zss _, by simp [newH, top]⟩
     · rw [if_neg e] at hi
       exact ⟨(h.hist i H hi).1.mono (by omega), (h.hist i H hi).2⟩
theorem zvw {n : Nat} {S : St} (h : StOk n S) (x : Kv) (h1 : 1 ≤ x.mod) (h2 : x.mod ≤ top) : StOk (n + 1) (putS S x) := by
 obtain ⟨hm, hid, H0, hH0, hk0, hl0⟩ := zun h x.key; unfold putS; rw [hH0]; refine { pos := hm.pos, next := hm.next, id := fun p hp => ?_, ids := fun i H hi => ?_, hist := fun i H hi => ?_, rev0 := hm.rev0, rev1 := hm.rev1, mark0 := hm.mark0, ev := hm.ev }
 · dsimp only
   split
   · exact ⟨_, rfl⟩
   · exact hm.id p hp
 · dsimp only at hi ⊢
   split at hi
   · rename_i e; rw [e]; exact hid
   · exact hm.ids i H hi
 · dsimp only at hi
   split at hi
   · obtain rfl := Option.some.inj hi
     exact ⟨zvx hk0 x h1 h2, h2⟩
   · exact hm.hist i H hi
theorem ztx {n : Nat} {S : St} (h : StOk n S) (x : Kv) (h2 : x.mod ≤ top) : StOk n (tombS S x) := by
 unfold tombS
 split
 · rename_i hg
   refine { pos := h.pos, next := h.next, id := fun p hp => ?_, ids := fun i H hi => ?_, hist := fun i H hi => ?_, rev0 := h.rev0, rev1 := h.rev1, mark0 := h.mark0, ev := h.ev }
   · dsimp only
     split
     · obtain ⟨H, hH⟩ := h.id _ (zfg hg)
       dsimp only at hH; exact ⟨_, by rw [hH]; rfl⟩
     · exact h.id p hp
   · dsimp only at hi ⊢
     split at hi
     · rename_i e
       cases hH : S.past (getT S.T x.key).1 with
       | none => rw [hH] at hi; cases hi
       | some H0 => rw [e]; exact h.ids _ H0 hH
     · exact h.ids i H hi
   · dsimp only at hi
     split at hi
     · cases hH : S.past (getT S.T x.key).1 with
       | none => rw [hH] at hi; cases hi
       | some H0 =>
         rw [hH] at hi; obtain rfl := Option.some.inj hi; exact ⟨zty (h.hist _ H0 hH).1 _, h2⟩
     · exact h.hist i H hi
 · exact h
theorem zvh {n : Nat} {S : St} (h : StOk n S) (x : Ev) (h1 : 1 ≤ x.kv.mod) (h2 : x.kv.mod ≤ top) : StOk (n + 1) (doneS S x) := by
 unfold doneS
 split
 · exact zvw h _ h1 h2
 · exact (ztx h _ h2).mono (by omega)
theorem doS_ok {n : Nat} {S : St} (h : StOk n S) (x : Ev) (h1 : 1 ≤ x.kv.mod) (h2 : x.kv.mod ≤ top) : StOk (n + 1) (doS S x) := by
 have hd := zvh h x h1 h2; have he := zey S x; unfold doS; refine { hd with ev := ?_ }; dsimp only; rw [he]; have := h.ev; simp; omega
theorem StOk.setRev {n : Nat} {S : St} (h : StOk n S) (r : Int) (h0 : -top ≤ r) (h1 : r ≤ top) : StOk n { S with rev := r } := { h with rev0 := h0, rev1 := h1 }
def rg0 (key : ByteArray) : Rg := ⟨key, ByteArray.empty, 0, 0, false, false, false⟩
def bA : ByteArray := ⟨#[97]⟩
def bB : ByteArray := ⟨#[98]⟩
def b1 : ByteArray := ⟨#[49]⟩
def b2 : ByteArray := ⟨#[50]⟩
def putO (k v : ByteArray) : Opr := ⟨1, rg0 k, v, 0⟩
def getO (k : ByteArray) : Opr := ⟨3, rg0 k, ByteArray.empty, 0⟩
theorem zsp {α : Type} {a o : α} {i : Nat} (h : [a][i]? = some o) : i = 0 ∧ o = a := by
 cases i with
 | zero => simp at h; exact ⟨rfl, h.symm⟩
 | succ i => simp at h
theorem zjt {W : World} {b : Nat} {o : Opr} {t : TypeId} (h : W.heap[b]? = some (.cells (opC o).toArray t (0, 0))) : SlR W 10 opC (.slice (some ⟨b, 0, none⟩) 1 1) [o] := by
 refine ⟨_, 1, rfl, by simp, by decide, fun _ => ⟨b, 0, rfl, fun i x hx j u hu => ?_⟩⟩; obtain ⟨rfl, rfl⟩ := zsp hx; unfold World.cell?; simp only [h, Nat.zero_mul, Nat.zero_add, Option.isSome_none, Bool.false_eq_true, if_false]; simpa using hu
def onlyL : List Kv → Kv
 | [x] => x
 | _ => kv0
def seenS (S : St) (key : ByteArray) : Kv := onlyL (allL S (rg0 key) S.rev)
def orderC (c : Cmp) (x : Kv) : Int := if c.what = 1 ∨ c.what = 2 ∨ c.what = 3 ∨ c.what = 5 then sgnI (sideN c x) c.number else sgnS x.value c.value
def holdsB (S : St) (c : Cmp) : Bool := cmpE c == 0 && orderC c (seenS S c.key) == sgnI c.how 0
theorem zms (w : World) (s : Nat) (c : Cmp) (hs : c.key.size ≤ 1099511627776) (hE : cmpE c ≠ 0) : Calls Tryz.prog 31 #[.pointer (some ⟨s, 0, none⟩), cmpV c] w fun e w' => e = .returned (.bool false) ∧ Fr No w w' := by
 have hc := fun W => zde W c hs; obtain ⟨c1, c2, c3, c4, c5⟩ := c; unfold cmpV at *; dsimp only at *; generalize cmpE _ = k at *; have hE' : (k == 0) = false := by simpa using hE
 clear hE hs; have HC := H_ hc; clear hc; go_enter Tryz.func31, Tryz.ntmps31; go_wp2_with (go_at_call 75; refine (HC.out _).mono ?_; rintro e w1 ⟨rfl, hf⟩); go_ret; exact ⟨rfl, ((Fr.refl No w).alloc _).trans0 hf⟩
theorem as33t (v : Value) (w : World) : (Instr.typeAssert (.iface 3 v) 20 3 true).run Tryz.prog w = .ok (.tuple #[v, .bool true]) w := by kernel_rfl
theorem as33f (v : Value) (w : World) : (Instr.typeAssert (.iface 3 v) 20 3 false).run Tryz.prog w = .ok v w := by kernel_rfl
theorem as93t (v : Value) (w : World) : (Instr.typeAssert (.iface 9 v) 20 3 true).run Tryz.prog w = .ok (.tuple #[.int .i64 0, .bool false]) w := by kernel_rfl
theorem as99f (v : Value) (w : World) : (Instr.typeAssert (.iface 9 v) 20 9 false).run Tryz.prog w = .ok v w := by kernel_rfl
set_option maxHeartbeats 4000000 in
theorem ziq {TA : zao} {N : Nat} (hT : TreeOk TA N) {n : Nat} (hn : n ≤ 1099511627) (w : World) (s : Nat) (S : St) (F : Nat → Prop) (hS : zaj TA w s S F) (hok : StOk n S) (hN : S.T.length ≤ 1099511627) (hr0 : 0 ≤ S.rev) (c : Cmp)
 (hs : c.key.size ≤ 1099511627776) (hE : cmpE c = 0) :
 Calls Tryz.prog 31 #[.pointer (some ⟨s, 0, none⟩), cmpV c] w fun e w' => e = .returned (.bool (holdsB S c)) ∧ Fr No w w' := by
 have hc := fun W => zde W c hs
 have hk : keyE c.key = 0 := by
  unfold cmpE at hE; by_cases h : keyE c.key ≠ 0
  · rw [if_pos h] at hE; exact absurd hE h
  · simpa using h
 have hre : rangeE S (rg0 c.key) = 0 := by
  unfold rangeE askE whenE rg0; dsimp only; rw [hk]; have : ByteArray.empty.size = 0 := rfl; simp [this]; omega
 have hrg := fun W (h : Fr No w W) => zor hT hn W s S F (hS.fr0 hT h) hok hN (rg0 c.key) hs rfl rfl hre; have hmo : moreB S (rg0 c.key) S.rev = false := by unfold moreB rg0; simp
 have hgl : getL S (rg0 c.key) S.rev = allL S (rg0 c.key) S.rev := by unfold getL; rw [hmo]; rfl
 have hh : holdsB S c = (orderC c (seenS S c.key) == sgnI c.how 0) := by unfold holdsB; rw [hE]; rfl
 rw [hE] at hc; rw [hgl] at hrg; rw [hh]; unfold seenS; generalize allL S (rg0 c.key) S.rev = L at *; generalize moreB S (rg0 c.key) S.rev = mo at *; obtain ⟨c1, c2, c3, c4, c5⟩ := c; unfold rg0 rgV at hrg; unfold cmpV at *; dsimp only at *; have HC := H_ hc; have HR := H_ hrg; clear hc hrg hE hk hre hgl hh hmo hs hS; go_enter Tryz.func31, Tryz.ntmps31
 go_upto_if 34 with (first
  | (go_at_call 75; refine (HC.out _).mono ?_; rintro e w1 ⟨rfl, hf⟩
     have hf1 : Fr No w w1 := ((Fr.refl No w).alloc _).trans0 hf; have hb : w1.heap[w.heap.size]? = some (.cells #[.string c1, .int .i64 c2, .int .i64 c3, .int .i64 c4, .string c5] 53 (0, 0)) := hf.heap (zad _ _ _ rfl) id; have x0 : w1.cell? ⟨w.heap.size, 0, none⟩ = some (.string c1) := (by simp [World.cell?, hb]); have lx := zaa hb)
  | (go_at_call 46; refine (HR.out _ (hf1.alloc _)).mono ?_; rintro e w2 ⟨v, rfl, hv, hf2, hvn⟩; obtain ⟨va, vcap, rfl, hc1, hc2, hva⟩ := hv.shape
     have hb2 := hf2.heap (zad w1 (Obj.cells #[.string ByteArray.empty, .string ByteArray.empty, .int .i64 0, .int .i64 0, .int .i64 0, .int .i64 0] 99) _ rfl) id; have hbx2 := hf2.heap (((Fr.refl No w1).alloc (Obj.cells #[.string ByteArray.empty, .string ByteArray.empty, .int .i64 0, .int .i64 0, .int .i64 0, .int .i64 0] 99)).heap hb id) id; have hfw2 : Fr No w w2 := (hf1.alloc _).trans0 hf2; have l2 := zaa hb2))
 have HB2 := H_ hb2; have HBX2 := H_ hbx2; have HV := H_ hv; have HVN := H_ hvn; have HVA := H_ hva; have hsz1 := hf1.size; clear hb2 hbx2 hv hvn hva hf hb x0
 go_cut [35, 36, 37] (fun s35 s36 s37 wx => Hid (wx.heap[w.heap.size]? = some (.cells #[.string c1, .int .i64 c2, .int .i64 c3, .int .i64 c4, .string c5] 53 (0, 0))) ∧
  Hid (wx.heap[w1.heap.size]? = some (.cells #[.string (onlyL L).key, .string (onlyL L).value, .int .i64 (onlyL L).create, .int .i64 (onlyL L).mod, .int .i64 (onlyL L).version, .int .i64 (onlyL L).lease] 99 (0, 0))) ∧ Hid (Fr No w wx))
 case first =>
  by_cases h1 : L.length = 1
  · obtain ⟨x, rfl⟩ := List.length_eq_one_iff.1 h1
    obtain ⟨gb, go, rfl⟩ := HVA.out (by simp); obtain ⟨x1, x2, x3, x4, x5, x6⟩ := x; have y0 : w2.cell? ⟨gb, go, none⟩ = some (.string x1) := (by simpa using HV.out.cell zaf 0 0 rfl rfl); have y1 : w2.cell? ⟨gb, go + 1, none⟩ = some (.string x2) := (by simpa using HV.out.cell zaf 0 1 rfl rfl); have y2 : w2.cell? ⟨gb, go + 2, none⟩ = some (.int .i64 x3) := (by simpa using HV.out.cell zaf 0 2 rfl rfl); have y3 : w2.cell? ⟨gb, go + 3, none⟩ = some (.int .i64 x4) := (by simpa using HV.out.cell zaf 0 3 rfl rfl); have y4 : w2.cell? ⟨gb, go + 4, none⟩ = some (.int .i64 x5) := (by simpa using HV.out.cell zaf 0 4 rfl rfl); have y5 : w2.cell? ⟨gb, go + 5, none⟩ = some (.int .i64 x6) := (by simpa using HV.out.cell zaf 0 5 rfl rfl); have z0 : w2.cell? ⟨w1.heap.size, 0, none⟩ = some (.string ByteArray.empty) := (by simp [World.cell?, HB2.out])
    have z1 : w2.cell? ⟨w1.heap.size, 1, none⟩ = some (.string ByteArray.empty) := (by simp [World.cell?, HB2.out]); have z2 : w2.cell? ⟨w1.heap.size, 2, none⟩ = some (.int .i64 0) := (by simp [World.cell?, HB2.out]); have z3 : w2.cell? ⟨w1.heap.size, 3, none⟩ = some (.int .i64 0) := (by simp [World.cell?, HB2.out]); have z4 : w2.cell? ⟨w1.heap.size, 4, none⟩ = some (.int .i64 0) := (by simp [World.cell?, HB2.out]); have z5 : w2.cell? ⟨w1.heap.size, 5, none⟩ = some (.int .i64 0) := (by simp [World.cell?, HB2.out]); have hfz : ∀ i, w2.frozen? ⟨w1.heap.size, i, none⟩ = false := fun i => by simp [World.frozen?, HB2.out]
    go_wp2; go_meet
    case rel =>
     obtain ⟨Z, hZ, hz6, hzf⟩ := zgb (w := w) HB2.out ⟨x1, x2, x3, x4, x5, x6⟩; dsimp only at hZ hz6; rw [hZ]; have hFb : Fr (fun b => b = w1.heap.size) w2 Z := (by rw [← hZ]; exact ((((((Fr.refl _ w2).setAt 0 _).setAt 1 _).setAt 2 _).setAt 3 _).setAt 4 _).setAt 5 _); exact ⟨H_ (hFb.heap HBX2.out (fun e => by have e' : w.heap.size = w1.heap.size := e; omega)), H_ hz6, H_ (hzf hfw2 (by omega))⟩
  · have h1' : ((L.length : Int) == 1) = false := by simpa using (show ¬ (L.length : Int) = 1 by omega)
    have hk : onlyL L = kv0 := by
     match L, h1 with
     | [], _ => rfl
     | [_], h => simp at h
     | _ :: _ :: _, _ => rfl
    have HK := H_ hk; clear hk; go_wp2; go_meet
    case rel => exact ⟨HBX2, H_ (by rw [HK.out]; exact HB2.out), H_ hfw2⟩
 case rest =>
  obtain ⟨HA, HB, HF⟩ := hcut; generalize hkk : onlyL L = k at *; have HKK := H_ hkk; clear hkk; obtain ⟨k1, k2, k3, k4, k5, k6⟩ := k; have a0 : wc.cell? ⟨w.heap.size, 0, none⟩ = some (.string c1) := (by simp [World.cell?, HA.out]); have a1 : wc.cell? ⟨w.heap.size, 1, none⟩ = some (.int .i64 c2) := (by simp [World.cell?, HA.out]); have a2 : wc.cell? ⟨w.heap.size, 2, none⟩ = some (.int .i64 c3) := (by simp [World.cell?, HA.out]); have a3 : wc.cell? ⟨w.heap.size, 3, none⟩ = some (.int .i64 c4) := (by simp [World.cell?, HA.out]); have a4 : wc.cell? ⟨w.heap.size, 4, none⟩ = some (.string c5) := (by simp [World.cell?, HA.out]); have b0 : wc.cell? ⟨w1.heap.size, 0, none⟩ = some (.string k1) := (by simp [World.cell?, HB.out]); have b1 : wc.cell? ⟨w1.heap.size, 1, none⟩ = some (.string k2) := (by simp [World.cell?, HB.out])
  have b2 : wc.cell? ⟨w1.heap.size, 2, none⟩ = some (.int .i64 k3) := (by simp [World.cell?, HB.out]); have b3 : wc.cell? ⟨w1.heap.size, 3, none⟩ = some (.int .i64 k4) := (by simp [World.cell?, HB.out]); have b4 : wc.cell? ⟨w1.heap.size, 4, none⟩ = some (.int .i64 k5) := (by simp [World.cell?, HB.out]); have b5 : wc.cell? ⟨w1.heap.size, 5, none⟩ = some (.int .i64 k6) := (by simp [World.cell?, HB.out]); have la := zaa HA.out; have lb := zaa HB.out; have hsd := fun W => zna W ⟨c1, c2, c3, c4, c5⟩ ⟨k1, k2, k3, k4, k5, k6⟩; have hor : orderC ⟨c1, c2, c3, c4, c5⟩ ⟨k1, k2, k3, k4, k5, k6⟩ = if c2 = 1 ∨ c2 = 2 ∨ c2 = 3 ∨ c2 = 5 then sgnI (sideN ⟨c1, c2, c3, c4, c5⟩ ⟨k1, k2, k3, k4, k5, k6⟩) c4 else sgnS k2 c5 := rfl; unfold sidesV cmpV kvV at hsd; dsimp only at hsd; generalize sideN ⟨c1, c2, c3, c4, c5⟩ ⟨k1, k2, k3, k4, k5, k6⟩ = sn at *; have t1 := as33t; have t2 := as33f; have t3 := as93t
  have t4 := as99f; by_cases hw : c2 = 1 ∨ c2 = 2 ∨ c2 = 3 ∨ c2 = 5
  · simp only [if_pos hw] at hsd
    rw [if_pos hw] at hor; have HSD := H_ hsd; have HO := H_ hor; clear hsd hor hw
    go_wp2_with (first
     | (go_at_call 76; refine (HSD.out _).mono ?_; rintro e w3 ⟨rfl, hf3⟩
        have a2' := hf3.cell0 a2)
     | (go_at_call 77; refine (zjh _ _ _).mono ?_; rintro e w4 ⟨rfl, rfl⟩))
    go_ret; exact ⟨by rw [HKK.out, HO.out]; rfl, HF.out.trans0 hf3⟩
  · simp only [if_neg hw] at hsd
    rw [if_neg hw] at hor; have HSD := H_ hsd; have HO := H_ hor; clear hsd hor hw
    go_upto_region 12 with (first
     | (go_at_call 76; refine (HSD.out _).mono ?_; rintro e w3 ⟨rfl, hf3⟩
        have a2' := hf3.cell0 a2))
    have a3' := a2'
    go_region_held (fun W => W.cell? ⟨w.heap.size, 2, none⟩ = some (.int .i64 c3)) (first | assumption) (first | (go_at_call 78; refine (zqc _ _ _).mono ?_; rintro e w4 ⟨rfl, rfl⟩))
    go_wp2_with (first
     | (go_at_call 77; refine (zjh _ _ _).mono ?_; rintro e w4 ⟨rfl, rfl⟩))
    all_goals (go_ret; exact ⟨by rw [HKK.out, HO.out]; rfl, HF.out.trans0 (by (repeat (first | exact hf3 | refine Fr.drew ?_)))⟩)
def KSorted (l : List Kv) : Prop := l.Pairwise fun a b => klt a.key b.key = true
def hasL (l : List Kv) (key : ByteArray) : Option Kv := l.find? fun k => keq k.key key
def doneL : List Kv → Ev → List Kv
 | [], x => if x.kind = 1 then [x.kv] else []
 | k :: l, x => if klt k.key x.kv.key = true then k :: doneL l x else (if x.kind = 1 then [x.kv] else []) ++ (if keq k.key x.kv.key = true then l else k :: l)
theorem zhy {l : List Kv} (h : KSorted l) (x : Ev) (y : Kv) : y ∈ doneL l x ↔ (x.kind = 1 ∧ y = x.kv) ∨ (y ∈ l ∧ keq y.key x.kv.key = false) := by
 induction l with
 | nil => unfold doneL; split <;> simp_all
 | cons k l ih =>
   obtain ⟨h1, h2⟩ := List.pairwise_cons.1 h; unfold doneL
   split
   · rename_i hk
     rw [List.mem_cons, ih h2, List.mem_cons]; have := klt_ne hk
     constructor
     · rintro (rfl | h | ⟨h, h'⟩)
       · exact .inr ⟨.inl rfl, this⟩
       · exact .inl h
       · exact .inr ⟨.inr h, h'⟩
     · rintro (h | ⟨rfl | h, h'⟩)
       · exact .inr (.inl h)
       · exact .inl rfl
       · exact .inr (.inr ⟨h, h'⟩)
   · rename_i hk
     have hk' : klt k.key x.kv.key = false := (by simpa using hk)
     have hl : ∀ z ∈ l, keq z.key x.kv.key = false := fun z hz => by
      have h3 := zeu hk' (h1 z hz); rw [zcc]; exact klt_ne h3
     rw [List.mem_append]; refine or_congr ?_ ?_
     · split <;> simp_all
     · split
       · rename_i he
         constructor
         · exact fun hy => ⟨List.mem_cons_of_mem _ hy, hl y hy⟩
         · rintro ⟨hy, hy'⟩
           rcases List.mem_cons.1 hy with rfl | hy
           · rw [he] at hy'; cases hy'
           · exact hy
       · rename_i he
         constructor
         · intro hy
           refine ⟨hy, ?_⟩; rcases List.mem_cons.1 hy with rfl | hy
           · simpa using he
           · exact hl y hy
         · exact fun hy => hy.1
theorem zez {l : List Kv} (h : KSorted l) (x : Ev) : KSorted (doneL l x) := by
 induction l with
 | nil => unfold doneL KSorted; split <;> simp
 | cons k l ih =>
   obtain ⟨h1, h2⟩ := List.pairwise_cons.1 h; unfold doneL
   split
   · rename_i hk
     refine List.pairwise_cons.2 ⟨fun y hy => ?_, ih h2⟩; rcases (zhy h2 x y).1 hy with ⟨_, rfl⟩ | ⟨h3, _⟩
     · exact hk
     · exact h1 y h3
   · rename_i hk
     have hk' : klt k.key x.kv.key = false := (by simpa using hk); have hl : ∀ z ∈ l, klt x.kv.key z.key = true := fun z hz => zeu hk' (h1 z hz); refine List.pairwise_append.2 ⟨by split <;> simp, ?_, fun a ha b hb => ?_⟩
     · split
       · exact h2
       · exact h
     · split at ha
       · obtain rfl := List.mem_singleton.1 ha
         split at hb
         · exact hl b hb
         · rename_i he
           rcases List.mem_cons.1 hb with rfl | hb
           · rcases zet x.kv.key b.key with e | e | e
             · exact e
             · exact absurd (zat.2 e.symm) he
             · rw [e] at hk'; cases hk'
           · exact hl b hb
       · simp at ha
theorem zbw {l : List Kv} (h : KSorted l) (key : ByteArray) (y : Kv) : hasL l key = some y ↔ y ∈ l ∧ y.key = key := by
 constructor
 · intro hy
   exact ⟨List.mem_of_find?_eq_some hy, zat.1 (by simpa using List.find?_some hy)⟩
 · rintro ⟨hy, rfl⟩
   unfold hasL
   induction l with
   | nil => cases hy
   | cons k l ih =>
     obtain ⟨h1, h2⟩ := List.pairwise_cons.1 h; rw [List.find?_cons]; rcases List.mem_cons.1 hy with rfl | hy
     · rw [zat.2 rfl]
     · rw [klt_ne (h1 y hy)]
       exact ih h2 hy
theorem zsl {α : Type} {a b : Option α} (h : ∀ y, a = some y ↔ b = some y) : a = b := by
 cases a with
 | none =>
   cases b with
   | none => rfl
   | some y => exact ((h y).2 rfl)
 | some x => exact ((h x).1 rfl).symm
theorem zfe {l : List Kv} (h : KSorted l) (x : Ev) (key : ByteArray) : hasL (doneL l x) key = if keq key x.kv.key = true then (if x.kind = 1 then some x.kv else none) else hasL l key := by
 refine zsl fun y => ?_; rw [zbw (zez h x), zhy h]; by_cases hk : keq key x.kv.key = true
 · rw [if_pos hk]
   have hk' := zat.1 hk
   constructor
   · rintro ⟨⟨h1, rfl⟩ | ⟨_, h2⟩, h3⟩
     · rw [if_pos h1]
     · rw [h3, hk] at h2; cases h2
   · intro hy
     split at hy
     · rename_i h1
       obtain rfl := Option.some.inj hy; exact ⟨.inl ⟨h1, rfl⟩, hk'.symm⟩
     · cases hy
 · rw [if_neg hk, zbw h]
   constructor
   · rintro ⟨⟨h1, rfl⟩ | ⟨h1, _⟩, rfl⟩
     · exact absurd (zat.2 rfl) hk
     · exact ⟨h1, rfl⟩
   · rintro ⟨h1, rfl⟩
     exact ⟨.inr ⟨h1, by simpa using hk⟩, rfl⟩
theorem znl {l m : List Kv} (h : KSorted l) (h' : KSorted m) (he : ∀ key, hasL l key = hasL m key) : l = m := by
 have hm : ∀ y, y ∈ l ↔ y ∈ m := fun y => by
  have h1 := zbw h y.key y; have h2 := zbw h' y.key y; rw [he] at h1
  constructor
  · intro hy; exact (h2.1 (h1.2 ⟨hy, rfl⟩)).1
  · intro hy; exact (h1.1 (h2.2 ⟨hy, rfl⟩)).1
 clear he
 induction l generalizing m with
 | nil =>
   cases m with
   | nil => rfl
   | cons b m => exact absurd ((hm b).2 List.mem_cons_self) (by simp)
 | cons a l ih =>
   obtain ⟨a1, a2⟩ := List.pairwise_cons.1 h
   cases m with
   | nil => exact absurd ((hm a).1 List.mem_cons_self) (by simp)
   | cons b m =>
     obtain ⟨b1, b2⟩ := List.pairwise_cons.1 h'
     have hab : a = b := by
      rcases List.mem_cons.1 ((hm a).1 List.mem_cons_self) with e | e
      · exact e
      · rcases List.mem_cons.1 ((hm b).2 List.mem_cons_self) with e' | e'
        · exact e'.symm
        · have h1 := b1 a e
          have h2 := zcu (a1 b e'); rw [h1] at h2; cases h2
     subst hab
     congr 1
     refine ih a2 b2 fun y => ?_
     constructor
     · intro hy
       rcases List.mem_cons.1 ((hm y).1 (List.mem_cons_of_mem _ hy)) with rfl | e
       · have := a1 y hy; rw [zbg] at this; cases this
       · exact e
     · intro hy
       rcases List.mem_cons.1 ((hm y).2 (List.mem_cons_of_mem _ hy)) with rfl | e
       · have := b1 y hy; rw [zbg] at this; cases this
       · exact e
structure Doc where
 rev : Int
 mark : Int
 kvs : List Kv
 events : List Ev
def Doc.at (D : Doc) (r : Int) : List Kv := (D.events.filter fun e => decide (D.mark < e.kv.mod) && decide (e.kv.mod ≤ r)).foldl doneL D.kvs
theorem zda {l : List Kv} (h : KSorted l) (es : List Ev) : KSorted (es.foldl doneL l) := by
 induction es generalizing l with
 | nil => exact h
 | cons e es ih => exact ih (zez h e)
theorem Doc.at_sorted {D : Doc} (h : KSorted D.kvs) (r : Int) : KSorted (D.at r) := zda h _
structure HInv (M : Int) (H : Hist) : Prop where
 puts : ∀ x ∈ H.gens, ∀ p ∈ x.puts, 1 ≤ p ∧ p ≤ M
 ends : ∀ x ∈ H.gens, 0 ≤ x.end_ ∧ x.end_ ≤ M
 full : ∀ x ∈ H.gens, x.puts ≠ []
 zero : H.kvs 0 = none
theorem zhh {l : List Int} {r : Int} (h : ∀ p ∈ l, p ≤ r) : upTo l r = l.length := by
 unfold upTo; exact List.findIdx_eq_length_of_false fun p hp => by have := h p hp; simp; omega
theorem zkz {l : List Int} {r R : Int} (h : r < R) : upTo (l ++ [R]) r = upTo l r := by
 unfold upTo; rw [List.findIdx_append]
 split
 · rfl
 · rename_i hn
   have h1 : l.findIdx (fun p => decide (r < p)) = l.length := by
    have := List.findIdx_le_length (p := fun p => decide (r < p)) (xs := l); omega
   rw [h1]; simp [List.findIdx_cons, h]
theorem zwl (r : Int) : atK [] r = ((0, 0, 0), false) := rfl
theorem zby (K : List Gen) (x : Gen) (r : Int) : atK (K ++ [x]) r = if upTo x.puts r ≠ 0 then (if 0 < x.end_ ∧ x.end_ ≤ r then ((0, 0, 0), false) else ((x.create, x.puts[upTo x.puts r - 1]?.getD 0, x.cut + upTo x.puts r), true)) else atK K r := by
 unfold atK; rw [List.reverse_append, List.reverse_singleton, List.singleton_append, List.find?_cons]; by_cases h : upTo x.puts r = 0
 · simp [h]
 · have hb : (upTo x.puts r != 0) = true := by simpa using h
   rw [hb, if_pos h]
theorem zck {K : List Gen} (h : isOpen K = true) : ∃ L x, K = L ++ [x] ∧ x.end_ = 0 := by
 unfold isOpen at h
 cases hl : K.getLast? with
 | none => rw [hl] at h; cases h
 | some x =>
   rw [hl] at h; obtain ⟨L, rfl⟩ := List.getLast?_eq_some_iff.1 hl; exact ⟨L, x, rfl, by simpa using h⟩
theorem zbu (L : List Gen) (x : Gen) (f : Gen → Gen) : (L ++ [x]).modify ((L ++ [x]).length - 1) f = L ++ [f x] := by
 apply List.ext_getElem?; intro i; rw [List.getElem?_modify]; simp only [List.length_append, List.length_singleton, Nat.add_sub_cancel]; rcases Nat.lt_trichotomy i L.length with h | h | h
 · rw [List.getElem?_append_left h, List.getElem?_append_left h]; have : ¬ L.length = i := by omega
   cases L[i]? <;> simp [this]
 · subst h; simp
 · rw [List.getElem?_eq_none (by simp; omega), List.getElem?_eq_none (by simp; omega)]; simp
theorem zrd (K : List Gen) {r R : Int} (h : r < R) : atK (putK K R) r = atK K r := by
 unfold putK
 split
 · rename_i ho
   obtain ⟨L, x, rfl, hx⟩ := zck ho; rw [zbu, zby, zby, zkz h]; have := zdr x.puts r
   split
   · rw [List.getElem?_append_left (by omega)]
   · rfl
 · rw [zby, if_neg]
   simp [upTo, List.findIdx_cons, h]
theorem zre {K : List Gen} {r R : Int} (hK : ∀ x ∈ K, ∀ p ∈ x.puts, p < R) (h : R ≤ r) : (atK (putK K R) r).1.2.1 = R ∧ (atK (putK K R) r).2 = true := by
 unfold putK
 split
 · rename_i ho
   obtain ⟨L, x, rfl, hx⟩ := zck ho
   have hu : upTo (x.puts ++ [R]) r = x.puts.length + 1 := by
    rw [zhh]
    · simp
    · intro p hp
      rcases List.mem_append.1 hp with e | e
      · have := hK x (by simp) p e; omega
      · rw [List.mem_singleton.1 e]; exact h
   rw [zbu, zby]; dsimp only; rw [hu, if_pos (by omega), if_neg (by omega)]; simp
 · have hu : upTo [R] r = 1 := zhh (by simpa using h)
   rw [zby]; dsimp only; rw [hu, if_pos (by omega), if_neg (by omega)]; simp
theorem zom {K : List Gen} (ho : isOpen K = true) {r R : Int} (h : r < R) : atK (tombK K R) r = atK K r := by
 obtain ⟨L, x, rfl, hx⟩ := zck ho; unfold tombK; rw [zbu, zby, zby]; dsimp only; rw [if_neg (show ¬ (0 < R ∧ R ≤ r) by omega), if_neg (show ¬ (0 < x.end_ ∧ x.end_ ≤ r) by omega)]
theorem zon {K : List Gen} (ho : isOpen K = true) {r R : Int} (hK : ∀ x ∈ K, ∀ p ∈ x.puts, p ≤ R) (hf : ∀ x ∈ K, x.puts ≠ []) (h1 : 1 ≤ R) (h : R ≤ r) : atK (tombK K R) r = ((0, 0, 0), false) := by
 obtain ⟨L, x, rfl, hx⟩ := zck ho; unfold tombK; rw [zbu, zby]; dsimp only; have hu : upTo x.puts r = x.puts.length := zhh fun p hp => by have := hK x (by simp) p hp; omega
 have : 0 < x.puts.length := List.length_pos_iff.2 (hf x (by simp)); rw [hu, if_pos (by omega), if_pos (by omega)]
theorem zwm {K : List Gen} {r M : Int} (hK : ∀ x ∈ K, ∀ p ∈ x.puts, p ≤ M) : (atK K r).1.2.1 ≤ M ∨ (atK K r).1.2.1 = 0 := by
 unfold atK
 split
 · exact .inr rfl
 · rename_i x hx
   have hm := List.mem_reverse.1 (List.mem_of_find?_eq_some hx)
   split
   · exact .inr rfl
   · dsimp only
     cases hp : x.puts[upTo x.puts r - 1]? with
     | none => exact .inr rfl
     | some p => exact .inl (hK x hm p (List.mem_of_getElem? hp))
theorem zvb {M : Int} {H : Hist} (h : HInv M H) (x : Kv) (hM : M < x.mod) (h1 : 1 ≤ x.mod) (r : Int) : hadH (putH H x) r = if r < x.mod then hadH H r else (x, true) := by
 split
 · rename_i hr
   unfold hadH putH; dsimp only; rw [zrd _ hr, if_neg]; rcases zwm (r := r) fun y hy p hp => (h.puts y hy p hp).2 with e | e <;> omega
 · rename_i hr
   obtain ⟨e1, e2⟩ := zre (r := r) (R := x.mod) (K := H.gens) (fun y hy p hp => by have := (h.puts y hy p hp).2; omega) (by omega); unfold hadH putH; dsimp only; rw [e1, e2, if_pos rfl]
   rfl
theorem zta {M : Int} {H : Hist} (h : HInv M H) (ho : isOpen H.gens = true) {R : Int} (hM : M < R) (h1 : 1 ≤ R) (r : Int) : hadH (tombH H R) r = if r < R then hadH H r else (kv0, false) := by
 split
 · rename_i hr
   unfold hadH tombH; dsimp only; rw [zom ho hr]
 · rename_i hr
   unfold hadH tombH; dsimp only; rw [zon ho (fun y hy p hp => by have := (h.puts y hy p hp).2; omega) h.full h1 (by omega)]; dsimp only; rw [h.zero]
   rfl
theorem HInv.put {M : Int} {H : Hist} (h : HInv M H) (x : Kv) (hM : M < x.mod) (h1 : 1 ≤ x.mod) : HInv x.mod (putH H x) := by
 have hz : (putH H x).kvs 0 = none := by unfold putH; dsimp only; rw [if_neg (by omega)]; exact h.zero
 have hg : ∀ y ∈ (putH H x).gens, (∀ p ∈ y.puts, 1 ≤ p ∧ p ≤ x.mod) ∧ (0 ≤ y.end_ ∧ y.end_ ≤ x.mod) ∧ y.puts ≠ [] := by
  unfold putH putK; dsimp only
  split
  · rename_i ho
    obtain ⟨L, z, hLz, hz⟩ := zck ho; rw [hLz, zbu]; have hb := h.puts; have he := h.ends; have hf := h.full; rw [hLz] at hb he hf; intro y hy; rcases List.mem_append.1 hy with e | e
    · have hm := List.mem_append_left [z] e
      exact ⟨fun p hp => by have := hb y hm p hp; omega, by have := he y hm; omega, hf y hm⟩
    · rw [List.mem_singleton.1 e]
      refine ⟨fun p hp => ?_, by dsimp only; omega, by simp⟩; rcases List.mem_append.1 hp with e | e
      · have := hb z (by simp) p e; omega
      · rw [List.mem_singleton.1 e]; omega
  · intro y hy
    rcases List.mem_append.1 hy with e | e
    · exact ⟨fun p hp => by have := h.puts y e p hp; omega, by have := h.ends y e; omega, h.full y e⟩
    · rw [List.mem_singleton.1 e]
      exact ⟨fun p hp => by rw [List.mem_singleton.1 hp]; omega, by dsimp only; omega, by simp⟩
 exact ⟨fun y hy => (hg y hy).1, fun y hy => (hg y hy).2.1, fun y hy => (hg y hy).2.2, hz⟩
theorem HInv.tomb {M : Int} {H : Hist} (h : HInv M H) (ho : isOpen H.gens = true) {R : Int} (hM : M < R) (h1 : 1 ≤ R) : HInv R (tombH H R) := by
 obtain ⟨L, z, hLz, hz⟩ := zck ho; have hb := h.puts; have he := h.ends; have hf := h.full
 have hg : ∀ y ∈ (tombH H R).gens, (∀ p ∈ y.puts, 1 ≤ p ∧ p ≤ R) ∧ (0 ≤ y.end_ ∧ y.end_ ≤ R) ∧ y.puts ≠ [] := by
  unfold tombH tombK; dsimp only; rw [hLz, zbu]; rw [hLz] at hb he hf; intro y hy; rcases List.mem_append.1 hy with e | e
  · have hm := List.mem_append_left [z] e
    exact ⟨fun p hp => by have := hb y hm p hp; omega, by have := he y hm; omega, hf y hm⟩
  · rw [List.mem_singleton.1 e]
    exact ⟨fun p hp => by have := hb z (by simp) p hp; omega, ⟨by dsimp only; omega, Int.le_refl _⟩, hf z (by simp)⟩
 exact ⟨fun y hy => (hg y hy).1, fun y hy => (hg y hy).2.1, fun y hy => (hg y hy).2.2, h.zero⟩
theorem HInv.new (M : Int) : HInv M newH := ⟨by simp [newH], by simp [newH], by simp [newH], rfl⟩
theorem ztb {M : Int} {H : Hist} (h : HInv M H) {r : Int} (hr : M ≤ r) : (hadH H r).2 = isOpen H.gens := by
 show (atK H.gens r).2 = isOpen H.gens
 unfold isOpen
 cases hl : H.gens.getLast? with
 | none => rw [List.getLast?_eq_none_iff.1 hl]; rfl
 | some x =>
   obtain ⟨L, hL⟩ := List.getLast?_eq_some_iff.1 hl; have hx : x ∈ H.gens := (by rw [hL]; simp); have hu : upTo x.puts r = x.puts.length := zhh fun p hp => by have := (h.puts x hx p hp).2; omega
   have := List.length_pos_iff.2 (h.full x hx); have he := h.ends x hx; rw [hL, zby, hu, if_pos (by omega)]; dsimp only; by_cases h0 : x.end_ = 0
   · rw [if_neg (by omega)]; simp [h0]
   · rw [if_pos (by omega)]; simp [h0]
structure SInv (M : Int) (S : St) : Prop where
 inj : ∀ k k', (getT S.T k).2 = true → (getT S.T k').2 = true → (getT S.T k).1 = (getT S.T k').1 → k = k'
 has : ∀ k, (getT S.T k).2 = true → ∃ H, S.past (getT S.T k).1 = some H
 hist : ∀ i H, S.past i = some H → (HInv H.last H ∧ H.last ≤ M) ∧ i < S.next
theorem zvc (r : Int) : hadH newH r = (kv0, false) := rfl
theorem SInv.made {M : Int} {S : St} (h : SInv M S) (hM0 : 0 ≤ M) (key : ByteArray) : SInv M (madeS S key) ∧ (getT (madeS S key).T key).2 = true ∧ (getT (madeS S key).T key).1 = idS S key ∧ ∀ k r, livesS (madeS S key) k r = livesS S k r := by
 unfold madeS idS
 cases hg : (getT S.T key).2 with
 | true => simp only [if_true]; exact ⟨h, by first | trivial | exact hg, by trivial, fun _ _ => by trivial⟩
 | false =>
   simp only [Bool.false_eq_true, if_false]
   have hlt : ∀ k, (getT S.T k).2 = true → (getT S.T k).1 < S.next := fun k hk => by
    obtain ⟨H, hH⟩ := h.has k hk; exact (h.hist _ _ hH).2
   refine ⟨⟨fun k k' a b e => ?_, fun k a => ?_, fun i H a => ?_⟩, ?_, ?_, fun k r => ?_⟩
   · dsimp only at a b e
     rw [zcv] at a b e; rw [zcv] at e
     split at a <;> split at b <;> rename_i c1 c2
     · exact (zat.1 c1).symm.trans (zat.1 c2)
     · rw [if_pos c1, if_neg c2] at e; have := hlt k' b; dsimp only at e; omega
     · rw [if_neg c1, if_pos c2] at e; have := hlt k a; dsimp only at e; omega
     · rw [if_neg c1, if_neg c2] at e; exact h.inj k k' a b e
   · dsimp only at a ⊢
     rw [zcv] at a ⊢
     split at a
     · exact ⟨newH, by simp [*]⟩
     · rename_i c
       rw [if_neg c]; have := hlt k a; rw [if_neg (by omega)]; exact h.has k a
   · dsimp only at a ⊢
     split at a
     · obtain rfl := Option.some.inj a; exact ⟨⟨HInv.new 0, hM0⟩, by omega⟩
     · have := h.hist i H a; exact ⟨this.1, by omega⟩
   · rw [zcv, if_pos (zat.2 rfl)]
   · rw [zcv, if_pos (zat.2 rfl)]
   · unfold livesS
     dsimp only; rw [zcv]; by_cases c : keq key k = true
     · obtain rfl := zat.1 c
       rw [if_pos c, hg]; simp [zvc]
     · rw [if_neg c]
       cases ha : (getT S.T k).2 with
       | false => rfl
       | true => have := hlt k ha; simp only [if_true]; rw [if_neg (by omega)]
theorem SInv.put {M : Int} {S : St} (h : SInv M S) (hM0 : 0 ≤ M) (x : Kv) (hM : M ≤ x.mod) (h1 : 1 ≤ x.mod) (hlast : (getT S.T x.key).2 = true → ∀ H, S.past (getT S.T x.key).1 = some H → H.last < x.mod) : SInv x.mod (putS S x) ∧ ∀ k r, livesS (putS S x) k r = if keq x.key k = true ∧ x.mod ≤ r then (x, true) else livesS S k r := by
 obtain ⟨a, b, c, d⟩ := h.made hM0 x.key; obtain ⟨H, hH⟩ := a.has _ b; rw [c] at hH
 have hl : H.last < x.mod := by
  unfold madeS idS at hH
  cases hg : (getT S.T x.key).2 with
  | true => rw [hg, if_pos rfl, if_pos rfl] at hH; exact hlast hg H hH
  | false =>
    simp only [hg, Bool.false_eq_true, if_false, if_true] at hH; obtain rfl := Option.some.inj hH
    show (0 : Int) < x.mod
    omega
 have hI := (a.hist _ _ hH); unfold putS; rw [hH]; generalize madeS S x.key = S' at *; generalize idS S x.key = id at *; dsimp only [Option.getD_some]; refine ⟨⟨a.inj, fun k hk => ?_, fun i G hG => ?_⟩, fun k r => ?_⟩
 · dsimp only at hk ⊢
   split
   · exact ⟨_, rfl⟩
   · exact a.has k hk
 · dsimp only at hG ⊢
   split at hG
   · rename_i e
     obtain rfl := Option.some.inj hG; exact ⟨⟨hI.1.1.put x hl h1, Int.le_refl _⟩, by rw [e]; exact hI.2⟩
   · have := a.hist i G hG
     exact ⟨⟨this.1.1, by omega⟩, this.2⟩
 · rw [← d k r]
   unfold livesS; dsimp only
   cases hk : (getT S'.T k).2 with
   | false =>
     have hno : ¬ (keq x.key k = true ∧ x.mod ≤ r) := by
      rintro ⟨e, _⟩; rw [zat.1 e, hk] at b; cases b
     simp only [Bool.false_eq_true, if_false, hno]
   | true =>
     simp only [if_true]; by_cases e : keq x.key k = true
     · obtain rfl := zat.1 e
       rw [c, if_pos rfl, hH]; dsimp only; rw [zvb hI.1.1 x hl h1 r]; by_cases hr : r < x.mod
       · rw [if_pos hr, if_neg (by omega)]
       · rw [if_neg hr, if_pos ⟨e, by omega⟩]
     · have hne : (getT S'.T k).1 ≠ id := fun e' => e (zat.2 (a.inj x.key k b hk (c.trans e'.symm)))
       rw [if_neg hne, if_neg fun h => e h.1]
theorem SInv.tomb {M : Int} {S : St} (h : SInv M S) (x : Kv) (hM : M ≤ x.mod) (h1 : 1 ≤ x.mod) (hk : (getT S.T x.key).2 = true) (hlast : ∀ H, S.past (getT S.T x.key).1 = some H → H.last < x.mod) (ho : ∀ H, S.past (getT S.T x.key).1 = some H → isOpen H.gens = true) :
 SInv x.mod (tombS S x) ∧ ∀ k r, livesS (tombS S x) k r = if keq x.key k = true ∧ x.mod ≤ r then (kv0, false) else livesS S k r := by
 obtain ⟨H, hH⟩ := h.has _ hk; have hI := h.hist _ _ hH; have ho' := ho H hH; unfold tombS; rw [if_pos hk, hH]; dsimp only [Option.map_some]; refine ⟨⟨h.inj, fun k a => ?_, fun i G hG => ?_⟩, fun k r => ?_⟩
 · dsimp only at a ⊢
   split
   · exact ⟨_, rfl⟩
   · exact h.has k a
 · dsimp only at hG ⊢
   split at hG
   · rename_i e
     obtain rfl := Option.some.inj hG; exact ⟨⟨hI.1.1.tomb ho' (hlast H hH) h1, Int.le_refl _⟩, by rw [e]; exact hI.2⟩
   · have := h.hist i G hG
     exact ⟨⟨this.1.1, by omega⟩, this.2⟩
 · unfold livesS
   dsimp only
   cases ha : (getT S.T k).2 with
   | false =>
     have hno : ¬ (keq x.key k = true ∧ x.mod ≤ r) := by
      rintro ⟨e, _⟩; rw [zat.1 e, ha] at hk; cases hk
     simp only [Bool.false_eq_true, if_false, hno]
   | true =>
     simp only [if_true]; by_cases e : keq x.key k = true
     · obtain rfl := zat.1 e
       rw [if_pos rfl, hH]; dsimp only; rw [zta hI.1.1 ho' (hlast H hH) h1 r]; by_cases hr : r < x.mod
       · rw [if_pos hr, if_neg (by omega)]
       · rw [if_neg hr, if_pos ⟨e, by omega⟩]
     · have hne : (getT S.T k).1 ≠ (getT S.T x.key).1 := fun e' => e (zat.2 (h.inj x.key k hk ha e'.symm))
       rw [if_neg hne, if_neg fun h => e h.1]
def seen (o : Option Kv) : Kv × Bool := match o with
 | some k => (k, true)
 | none => (kv0, false)
structure Cpl (S : St) (D : Doc) : Prop where
 mark : S.mark = D.mark
 events : S.events = D.events
 inv : SInv D.rev S
 ks : KSorted D.kvs
 m0 : 0 ≤ D.mark ∧ D.mark ≤ D.rev
 lives : ∀ key r, D.mark ≤ r → livesS S key r = seen (hasL (D.at r) key)
def Doc.add (D : Doc) (x : Ev) : Doc := { D with rev := x.kv.mod, events := D.events ++ [x] }
theorem Doc.add_at (D : Doc) (x : Ev) (h : D.mark < x.kv.mod) (r : Int) : (D.add x).at r = if x.kv.mod ≤ r then doneL (D.at r) x else D.at r := by
 unfold Doc.at Doc.add; dsimp only; rw [List.filter_append, List.foldl_append]; by_cases hr : x.kv.mod ≤ r
 · rw [if_pos hr]; simp [h, hr]
 · rw [if_neg hr]; simp [hr]
theorem zql (S : St) (x : Ev) (k : ByteArray) (r : Int) : livesS (doS S x) k r = livesS (doneS S x) k r := rfl
theorem zqw (S : St) (x : Ev) : (doneS S x).mark = S.mark := by
 unfold doneS putS tombS madeS; dsimp only
 split
 · split <;> rfl
 · split <;> rfl
theorem Cpl.does {S : St} {D : Doc} (h : Cpl S D) (x : Ev) (hM : D.rev ≤ x.kv.mod) (h1 : 1 ≤ x.kv.mod) (hm : D.mark < x.kv.mod) (hlast : (getT S.T x.kv.key).2 = true → ∀ H, S.past (getT S.T x.kv.key).1 = some H → H.last < x.kv.mod)
 (hdel : x.kind ≠ 1 → (getT S.T x.kv.key).2 = true ∧ ∀ H, S.past (getT S.T x.kv.key).1 = some H → isOpen H.gens = true) : Cpl (doS S x) (D.add x) := by
 have hM0 : 0 ≤ D.rev := by have := h.m0; omega
 have key : SInv x.kv.mod (doneS S x) ∧ ∀ k r, livesS (doneS S x) k r = if keq x.kv.key k = true ∧ x.kv.mod ≤ r then (if x.kind = 1 then (x.kv, true) else (kv0, false)) else livesS S k r := by
  unfold doneS; by_cases hk : x.kind = 1
  · rw [if_pos hk, if_pos hk]
    exact h.inv.put hM0 x.kv hM h1 hlast
  · rw [if_neg hk, if_neg hk]
    obtain ⟨a, b⟩ := hdel hk; exact h.inv.tomb x.kv hM h1 a (hlast a) b
 refine ⟨(zqw S x).trans h.mark, ?_, ?_, h.ks, ⟨h.m0.1, by have := h.m0; show D.mark ≤ x.kv.mod; omega⟩, fun k r hr => ?_⟩
 · show (doneS S x).events ++ [x] = D.events ++ [x]
   rw [zey, h.events]
 · exact ⟨key.1.inj, key.1.has, key.1.hist⟩
 · rw [zql, key.2, Doc.add_at D x hm r, h.lives k r hr]
   by_cases hr2 : x.kv.mod ≤ r
   · rw [if_pos hr2, zfe (Doc.at_sorted h.ks r), zcc k]
     by_cases hk : keq x.kv.key k = true
     · rw [if_pos ⟨hk, hr2⟩, if_pos hk]
       split <;> rfl
     · rw [if_neg fun e => hk e.1, if_neg hk]
   · rw [if_neg hr2, if_neg fun e => hr2 e.2]
end Go.Proofs.YthljnnjpmdgkoaaGreat