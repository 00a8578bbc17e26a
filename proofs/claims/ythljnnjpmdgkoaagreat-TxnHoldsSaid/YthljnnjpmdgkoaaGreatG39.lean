/- Lemmas for the claim. Conditions stand in each. -/
import Derived.Test.YthljnnjpmdgkoaaGreatG34
import Derived.Test.YthljnnjpmdgkoaaGreatG03
namespace Go.Proofs.YthljnnjpmdgkoaaGreat
open Go Go.Proofs Go.RowKit Go.Shelf
set_option maxRecDepth 100000
attribute [local go_sem] Oper.semAt_some
theorem TreeR.keep {w w' : World} {t : Nat} {nv fv : Value} {Z : List Nz} {fl : List Nat} {root : Nat} {many : Int} (h : TreeR w t nv fv Z fl root many) (hk : ∀ b, treeF t nv fv Z b → w'.heap[b]? = w.heap[b]?) : TreeR w' t nv fv Z fl root many where
 obj := by obtain ⟨e, he⟩ := h.obj; exact ⟨e, (hk t (.inl rfl)).trans he⟩
 nodes := Sl.keep h.nodes fun b hb => hk b (.inr (.inl hb))
 free := Sl.keep h.free fun b hb => hk b (.inr (.inr (.inl hb)))
 pairs i z hz := Sl.keep (h.pairs i z hz) fun b hb => hk b (.inr (.inr (.inr ⟨i, z, hz, .inl hb⟩)))
 kids i z hz := Sl.keep (h.kids i z hz) fun b hb => hk b (.inr (.inr (.inr ⟨i, z, hz, .inr hb⟩)))
 a1 := h.a1
 a2 := h.a2
 a3 := h.a3
 a4 := h.a4
structure zeg (W : World) (t n₀ Bo : Nat) (nv fv : Value) (Z : List Nz) (fl : List Nat) (root : Nat) (many : Int) : Prop where
 r : TreeR W t nv fv Z fl root many
 size : n₀ ≤ W.heap.size
 low : ∀ b, treeF t nv fv Z b → b < n₀ ∧ b ≠ Bo
 few : Z.length ≤ 1099511627
theorem zeg.kp {W W' : World} {t n₀ Bo : Nat} {nv fv : Value} {Z : List Nz} {fl : List Nat} {root : Nat} {many : Int} (h : zeg W t n₀ Bo nv fv Z fl root many) (k : KpR n₀ Bo W W') : zeg W' t n₀ Bo nv fv Z fl root many :=
 ⟨h.r.keep fun b hb => k.low b (h.low b hb).1 (h.low b hb).2, Nat.le_trans h.size k.size, h.low, h.few⟩
set_option maxHeartbeats 1000000 in
theorem zup (n l t n₀ Bo : Nat) (hBo : Bo < n₀) (nv fv : Value) (Z : List Nz) (fl : List Nat) (root : Nat) (many : Int) (frm : ByteArray) (J Jx : Pairs → World → Prop) (N : Nat)
 (hJ : ∀ pre W W', J pre W → Fr No W W' → J pre W')
 (hY : ∀ m pre x W, J pre W → pre.length < N → YieldAt Fence.wide m Tryz.prog l (zdu x) W fun e W' =>
   (e = .returned (.bool true) ∧ J (pre ++ [x]) W' ∧ KpR n₀ Bo W W') ∨ (e = .returned (.bool false) ∧ Jx (pre ++ [x]) W'))
 (at_ : Nat) (z : Nz) (hz : Z[at_]? = some z) (h9 : z.nd.pairs.length ≤ 9) (hk0 : z.nd.kids = []) (pre0 : Pairs) (hN : pre0.length + (z.nd.pairs.drop (spotOf z.nd.pairs frm)).length ≤ N)
 (W : World) (h : zeg W t n₀ Bo nv fv Z fl root many) (h0 : J pre0 W) :
 CallsIn Fence.wide n Tryz.prog 153 #[.pointer (some ⟨t, 0, none⟩), .int .i64 at_, .string frm, .func (.yield l) #[] #[]] W fun e W' =>
  (e = .returned (.bool true) ∧ J (pre0 ++ z.nd.pairs.drop (spotOf z.nd.pairs frm)) W' ∧ KpR n₀ Bo W W') ∨ (e = .returned (.bool false) ∧ ∃ pre, pre <+: z.nd.pairs.drop (spotOf z.nd.pairs frm) ∧ Jx (pre0 ++ pre) W') := by
 have hsp := spotZ h.r at_ z hz h9 h.few frm; unfold zbq at hsp; have hzl := h.few; have hatl : at_ < Z.length := (List.getElem?_eq_some_iff.1 hz).1; obtain ⟨nb, no, cap, rfl, hcap⟩ := h.r.headLen (by omega); have c0 := h.r.obj.cell 0 rfl; obtain ⟨n0, n1, _, _⟩ := h.r.look at_ z hz; obtain ⟨pa, pcap, hpv, hc3, hc4, hpa⟩ := (h.r.pairs at_ z hz).shape; obtain ⟨ka, kcap, hkv, hc5, hc6, hka⟩ := (h.r.kids at_ z hz).shape; have hkl : z.nd.kids.length = 0 := by rw [hk0]; rfl
 rw [hpv] at n0; rw [hkv, hkl] at n1; have hsl := zbn z.nd.pairs frm; have hatz : (at_ : Int) < (Z.length : Int) := by omega
 have hltW : t < W.heap.size := h.r.obj.lt; have hlnb : nb < W.heap.size := h.r.nodes.lt nb rfl; have H := H_ h; have HA := H_ hpa; have HZ := H_ hz; have HPV := H_ hpv; have hsz0 := h.size; clear h hpa hz hpv hkv hka hk0 hkl; refine callsIn_of_wp Tryz.func153 rfl trivial ?_ rfl; simp only [Tryz.ntmps153, List.size_toArray, List.length_cons, List.length_nil, Nat.reduceAdd, Nat.reduceSub, Array.replicate_succ, Array.replicate_zero, List.push_toArray, List.append_toArray, List.nil_append, List.cons_append]; generalize hitOf z.nd.pairs frm = hit at hsp; generalize spotOf z.nd.pairs frm = s0 at *; cases hit
 all_goals
  gi_wp2_with (refine ⟨trivial, hdd _, ?_⟩; gi_at_call 157; refine (callsIn_wide.2 hsp).mono ?_; clear hsp; rintro e w' ⟨rfl, rfl⟩)
  refine ⟨trivial, ?_⟩
  gi_wp2
  gi_loopw [9] (fun i wr => ∃ k : Nat, s0 ≤ k ∧ k ≤ z.nd.pairs.length ∧ i = .int .i64 k ∧ Hid (J (pre0 ++ (z.nd.pairs.drop s0).take (k - s0)) wr) ∧ KpR n₀ Bo W wr ∧ wr.heap[W.heap.size]? = some (.cells #[.slice pa z.nd.pairs.length pcap, .slice ka 0 kcap] 231 (0, 0)))
   (fun i _ => z.nd.pairs.length - (intOf i).toNat)
  case atStart => exact ⟨s0, Nat.le_refl _, hsl, rfl, H_ (by simpa using hJ _ _ _ h0 ((Fr.refl _ W).alloc _)), KpR.of_fr ((Fr.refl No W).alloc _) hsz0 (fun _ s => s.elim), heap_alloc_new _ _⟩
  case round =>
   obtain ⟨k, hk1, hk2, rfl, hJs, hKp, hbp⟩ := hrel; have p0 : wr.cell? ⟨W.heap.size, 0, none⟩ = some (.slice pa z.nd.pairs.length pcap) := (by simp [World.cell?, hbp]); have p1 : wr.cell? ⟨W.heap.size, 1, none⟩ = some (.slice ka 0 kcap) := (by simp [World.cell?, hbp]); by_cases hlt : k < z.nd.pairs.length
   · obtain ⟨pb, po, rfl⟩ := HA.out (by omega)
     obtain ⟨x, hx⟩ : ∃ x, z.nd.pairs[k]? = some x := ⟨_, List.getElem?_eq_getElem hlt⟩
     have hpw : SlF wr 122 2 pairC (.slice (some ⟨pb, po, none⟩) z.nd.pairs.length pcap) z.nd.pairs := by
      have := (H.out.kp hKp).r.pairs at_ z HZ.out
      rwa [HPV.out] at this
     have x0 := hpw.cell0 zae k hx rfl; have x1 := hpw.cell zae k 1 hx rfl; obtain ⟨fn, tmps, assign, body, hy, hR⟩ := hY (n - 1) _ x wr hJs.out (by simp at hN ⊢; omega); dsimp only [zdu] at hy; have hkz : (k : Int) < (z.nd.pairs.length : Int) := (by omega); have HX := H_ hx; have hbl2 : n₀ ≤ wr.heap.size := Nat.le_trans hsz0 hKp.size; have hpbl : pb < wr.heap.size := hpw.lt pb rfl; clear hx hpw
     gi_wp2
     refine ⟨hdd _, hR.mono ?_⟩; rintro e W3 (⟨rfl, hJ3, hk3⟩ | ⟨rfl, hJx3⟩)
     · have hb3 := (hk3.rows _ _ _ _ hbp (by decide) (by omega)).trans hbp
       have q0 : W3.cell? ⟨W.heap.size, 0, none⟩ = some (.slice (some ⟨pb, po, none⟩) z.nd.pairs.length pcap) := (by simp [World.cell?, hb3]); have q1 : W3.cell? ⟨W.heap.size, 1, none⟩ = some (.slice ka 0 kcap) := (by simp [World.cell?, hb3])
       have hst : (z.nd.pairs.drop s0).take (k - s0) ++ [x] = (z.nd.pairs.drop s0).take (k + 1 - s0) := by
        rw [show k + 1 - s0 = (k - s0) + 1 from by omega, List.take_add_one, List.getElem?_drop, show s0 + (k - s0) = k from by omega, HX.out]
        rfl
       rw [List.append_assoc, hst] at hJ3; have HJ3 := H_ hJ3; clear hJ3 hst hJs p0 p1 x0 x1
       gi_wp2
       refine ⟨trivial, ?_⟩
       gi_wp2
       go_roundw
       case rel => exact ⟨k + 1, by omega, by omega, by go_num, HJ3, hKp.trans hk3, hb3⟩
       case measure => simp [intOf]; omega
     have hst : (z.nd.pairs.drop s0).take (k - s0) ++ [x] = (z.nd.pairs.drop s0).take (k + 1 - s0) := by
      rw [show k + 1 - s0 = (k - s0) + 1 from by omega, List.take_add_one, List.getElem?_drop, show s0 + (k - s0) = k from by omega, HX.out]
      rfl
     rw [List.append_assoc, hst] at hJx3; have HJ3 := H_ hJx3; clear hJx3 hst hJs p0 p1 x0 x1
     gi_wp2
     go_ret; exact .inr ⟨rfl, _, List.take_prefix _ _, HJ3.out⟩
   obtain rfl : k = z.nd.pairs.length := by omega
   gi_wp2
   go_ret; exact .inl ⟨rfl, by have := hJs.out; rwa [List.take_of_length_le (by simp)] at this, hKp⟩
attribute [local go_sem] Oper.semAt_some
theorem zph (f : Nat → Pairs) : ∀ (P : Pairs) (K : List Nat) (p : ByteArray × Int) (k : Nat), K.length = P.length → rwv f (P ++ [p]) (K ++ [k]) = rwv f P K ++ p :: f k
 | [], [], p, k, _ => by simp [rwv]
 | [], _ :: _, _, _, h => by simp at h
 | _ :: _, [], _, _, h => by simp at h
 | q :: P, c :: K, p, k, h => by simp [rwv, zph f P K p k (by simpa using h)]
def zhe (n₀ Bo : Nat) (J Jx : Pairs → World → Prop) (pre0 S : Pairs) (W : World) (e : Ending) (W' : World) : Prop :=
 (e = .returned (.bool true) ∧ J (pre0 ++ S) W' ∧ KpR n₀ Bo W W') ∨ (e = .returned (.bool false) ∧ ∃ pre, pre <+: S ∧ Jx (pre0 ++ pre) W')
def segW (f : Nat → Pairs) (P : Pairs) (K : List Nat) (s0 k : Nat) : Pairs := rwv f ((P.drop s0).take (k - s0)) ((K.drop (s0 + 1)).take (k - s0))
theorem zlf (f : Nat → Pairs) (P : Pairs) (K : List Nat) (s0 : Nat) : segW f P K s0 s0 = [] := by unfold segW; simp [rwv]
theorem zhk (f : Nat → Pairs) (P : Pairs) (K : List Nat) (s0 k : Nat) (x : ByteArray × Int) (c : Nat) (h : s0 ≤ k) (hx : P[k]? = some x) (hc : K[k + 1]? = some c) (hl : K.length = P.length + 1) : segW f P K s0 (k + 1) = segW f P K s0 k ++ x :: f c := by
 have hk := (List.getElem?_eq_some_iff.1 hx).1; unfold segW; rw [show k + 1 - s0 = (k - s0) + 1 by omega, List.take_add_one, List.take_add_one, List.getElem?_drop, List.getElem?_drop, show s0 + (k - s0) = k by omega, show s0 + 1 + (k - s0) = k + 1 by omega, hx, hc]; exact zph f _ _ x c (by simp; omega)
theorem zju (f : Nat → Pairs) (P : Pairs) (K : List Nat) (s0 : Nat) (hl : K.length = P.length + 1) : segW f P K s0 P.length = rwv f (P.drop s0) (K.drop (s0 + 1)) := by
 unfold segW; rw [List.take_of_length_le (by simp), List.take_of_length_le (by simp; omega)]
theorem zfn (f : Nat → Pairs) (P : Pairs) (K : List Nat) (s0 : Nat) (hl : K.length = P.length + 1) : ∀ (m k : Nat), k + m = P.length → s0 ≤ k → segW f P K s0 k <+: rwv f (P.drop s0) (K.drop (s0 + 1))
 | 0, k, h, _ => by obtain rfl : k = P.length := by omega
                    rw [zju f P K s0 hl]; exact List.prefix_refl _
 | m + 1, k, h, hs => by
   have ih := zfn f P K s0 hl m (k + 1) (by omega) (by omega); rw [zhk f P K s0 k _ _ hs (List.getElem?_eq_getElem (by omega)) (List.getElem?_eq_getElem (by omega)) hl] at ih; exact (List.prefix_append _ _).trans ih
set_option maxHeartbeats 4000000 in
theorem zsb (n l t n₀ Bo : Nat) (hBo : Bo < n₀) (nv fv : Value) (Z : List Nz) (fl : List Nat) (root : Nat) (many : Int) (frm : ByteArray) (J Jx : Pairs → World → Prop) (N : Nat)
 (hJ : ∀ pre W W', J pre W → Fr No W W' → J pre W')
 (hY : ∀ m pre x W, J pre W → pre.length < N → YieldAt Fence.wide m Tryz.prog l (zdu x) W fun e W' =>
   (e = .returned (.bool true) ∧ J (pre ++ [x]) W' ∧ KpR n₀ Bo W W') ∨ (e = .returned (.bool false) ∧ Jx (pre ++ [x]) W'))
 (at_ : Nat) (z : Nz) (hz : Z[at_]? = some z) (h9 : z.nd.pairs.length ≤ 9) (hl : z.nd.kids.length = z.nd.pairs.length + 1) (f : Nat → Pairs)
 (hIH : ∀ (m c : Nat) (pre : Pairs) (W : World), c ∈ z.nd.kids → zeg W t n₀ Bo nv fv Z fl root many → pre.length + (f c).length ≤ N → J pre W →
   CallsIn Fence.wide m Tryz.prog 153 #[.pointer (some ⟨t, 0, none⟩), .int .i64 c, .string frm, .func (.yield l) #[] #[]] W (zhe n₀ Bo J Jx pre (f c) W))
 (pre0 first : Pairs) (hfirst : first = if hitOf z.nd.pairs frm then [] else f (z.nd.kids.getD (spotOf z.nd.pairs frm) 0))
 (hN : pre0.length + (first ++ rwv f (z.nd.pairs.drop (spotOf z.nd.pairs frm)) (z.nd.kids.drop (spotOf z.nd.pairs frm + 1))).length ≤ N)
 (W : World) (h : zeg W t n₀ Bo nv fv Z fl root many) (h0 : J pre0 W) :
 CallsIn Fence.wide n Tryz.prog 153 #[.pointer (some ⟨t, 0, none⟩), .int .i64 at_, .string frm, .func (.yield l) #[] #[]] W
  (zhe n₀ Bo J Jx pre0 (first ++ rwv f (z.nd.pairs.drop (spotOf z.nd.pairs frm)) (z.nd.kids.drop (spotOf z.nd.pairs frm + 1))) W) := by
 have hsp := spotZ h.r at_ z hz h9 h.few frm; unfold zbq at hsp; have hzl := h.few; have hatl : at_ < Z.length := (List.getElem?_eq_some_iff.1 hz).1; obtain ⟨nb, no, cap, rfl, hcap⟩ := h.r.headLen (by omega); have c0 := h.r.obj.cell 0 rfl; obtain ⟨n0, n1, _, _⟩ := h.r.look at_ z hz; obtain ⟨pa, pcap, hpv, hc3, hc4, hpa⟩ := (h.r.pairs at_ z hz).shape; obtain ⟨ka, kcap, hkv, hc5, hc6, hka⟩ := (h.r.kids at_ z hz).shape; obtain ⟨kb, ko, rfl⟩ := hka (by omega); rw [hpv] at n0; rw [hkv] at n1; have hsl := zbn z.nd.pairs frm; have hatz : (at_ : Int) < (Z.length : Int) := by omega
 have hltW : t < W.heap.size := h.r.obj.lt; have hlnb : nb < W.heap.size := h.r.nodes.lt nb rfl; have hkb : kb < n₀ ∧ kb ≠ Bo := h.low kb (.inr (.inr (.inr ⟨at_, z, hz, .inr (by rw [hkv]; rfl)⟩))); obtain ⟨c, hc⟩ : ∃ c, z.nd.kids[spotOf z.nd.pairs frm]? = some c := ⟨_, List.getElem?_eq_getElem (by omega)⟩; have hcd : z.nd.kids.getD (spotOf z.nd.pairs frm) 0 = c := by simp [List.getD, hc]
 rw [hcd] at hfirst; have hkk := h.r.kids at_ z hz; rw [hkv] at hkk; have k0 := hkk.cell1 zah _ hc rfl; have hcm := List.mem_of_getElem? hc; have H := H_ h; have HA := H_ hpa; have HZ := H_ hz; have HPV := H_ hpv; have HKV := H_ hkv; have HIH := H_ hIH; have HFI := H_ hfirst; have HN := H_ hN; have HL := H_ hl; have HCM := H_ hcm; have hsz0 := h.size; have hlkb : kb < W.heap.size := by omega
 have hkz : (0 : Int) < (z.nd.kids.length : Int) := by omega
 have hsz : (spotOf z.nd.pairs frm : Int) < (z.nd.kids.length : Int) := by omega
 have hBW : Bo < W.heap.size := by omega
 clear h hpa hz hpv hkv hka hIH hfirst hN hl hkk hcd hc hcm; refine callsIn_of_wp Tryz.func153 rfl trivial ?_ rfl; simp only [Tryz.ntmps153, List.size_toArray, List.length_cons, List.length_nil, Nat.reduceAdd, Nat.reduceSub, Array.replicate_succ, Array.replicate_zero, List.push_toArray, List.append_toArray, List.nil_append, List.cons_append]; generalize hitOf z.nd.pairs frm = hit at *; generalize spotOf z.nd.pairs frm = s0 at *; have hA0 : Fr No W (W.alloc (Obj.cells #[.slice pa z.nd.pairs.length pcap, .slice (some ⟨kb, ko, none⟩) z.nd.kids.length kcap] 231)) := (Fr.refl No W).alloc _; have hkp0 : KpR n₀ Bo W (W.alloc (Obj.cells #[.slice pa z.nd.pairs.length pcap, .slice (some ⟨kb, ko, none⟩) z.nd.kids.length kcap] 231)) := KpR.of_fr hA0 hsz0 (fun _ s => s.elim)
 have hb0 : (W.alloc (Obj.cells #[.slice pa z.nd.pairs.length pcap, .slice (some ⟨kb, ko, none⟩) z.nd.kids.length kcap] 231)).heap[W.heap.size]? = some (.cells #[.slice pa z.nd.pairs.length pcap, .slice (some ⟨kb, ko, none⟩) z.nd.kids.length kcap] 231 (0, 0)) := heap_alloc_new _ _; have HA0 := H_ hA0; have HKP0 := H_ hkp0; have HB0 := H_ hb0; have HJ0 := H_ (hJ _ _ _ h0 hA0); clear hA0 hkp0 hb0 h0; cases hit
 · have hff : first = f c := by have := HFI.out; simpa using this
   have hih := HIH.out (n - 1) c pre0 _ HCM.out (H.out.kp HKP0.out) (by have := HN.out; rw [hff] at this; simp only [List.length_append] at this; omega) HJ0.out; have HI1 := H_ hih; have HFF := H_ hff; clear hih hff
   gi_wp2_with (first
    | (refine ⟨trivial, hdd _, ?_⟩; gi_at_call 157; refine (callsIn_wide.2 hsp).mono ?_; clear hsp; rintro e w' ⟨rfl, rfl⟩)
    | (refine ⟨trivial, hdd _, ?_⟩; gi_at_call 153; refine HI1.out.mono ?_; rintro e w2 (⟨rfl, hJ2, hk2⟩ | ⟨rfl, pre, hpre, hx⟩)))
   · have hb2 := (hk2.rows _ _ _ _ HB0.out (by decide) (by omega)).trans HB0.out
     have HB2 := H_ hb2; have HJ2 : Hid (J (pre0 ++ first) w2) := H_ (by rw [HFF.out]; exact hJ2); have HK2 := H_ (HKP0.out.trans hk2); clear hb2 hJ2 hk2 k0 n0 n1 c0; have hb2 : w2.heap[W.heap.size]? = some (.cells #[.slice pa z.nd.pairs.length pcap, .slice (some ⟨kb, ko, none⟩) z.nd.kids.length kcap] 231 (0, 0)) := HB2.out; have q0 : w2.cell? ⟨W.heap.size, 0, none⟩ = some (.slice pa z.nd.pairs.length pcap) := (by simp [World.cell?, hb2]); have q1 : w2.cell? ⟨W.heap.size, 1, none⟩ = some (.slice (some ⟨kb, ko, none⟩) z.nd.kids.length kcap) := (by simp [World.cell?, hb2]); clear hb2
     gi_wp2
     gi_loopw [9] (fun i wr => ∃ k : Nat, s0 ≤ k ∧ k ≤ z.nd.pairs.length ∧ i = .int .i64 k ∧ Hid (J (pre0 ++ first ++ segW f z.nd.pairs z.nd.kids s0 k) wr) ∧ Hid (KpR n₀ Bo W wr) ∧ wr.heap[W.heap.size]? = some (.cells #[.slice pa z.nd.pairs.length pcap, .slice (some ⟨kb, ko, none⟩) z.nd.kids.length kcap] 231 (0, 0)))
      (fun i _ => z.nd.pairs.length - (intOf i).toNat)
     case atStart => exact ⟨s0, Nat.le_refl _, hsl, rfl, H_ (by rw [zlf, List.append_nil]; exact HJ2.out), HK2, HB2.out⟩
     case round =>
      obtain ⟨k, hk1, hk2, rfl, hJs, hKp, hbp⟩ := hrel; have p0 : wr.cell? ⟨W.heap.size, 0, none⟩ = some (.slice pa z.nd.pairs.length pcap) := (by simp [World.cell?, hbp]); have p1 : wr.cell? ⟨W.heap.size, 1, none⟩ = some (.slice (some ⟨kb, ko, none⟩) z.nd.kids.length kcap) := (by simp [World.cell?, hbp]); by_cases hlt : k < z.nd.pairs.length
      · obtain ⟨pb, po, rfl⟩ := HA.out (by omega)
        obtain ⟨x, hx⟩ : ∃ x, z.nd.pairs[k]? = some x := ⟨_, List.getElem?_eq_getElem hlt⟩; obtain ⟨c', hc'⟩ : ∃ c', z.nd.kids[k + 1]? = some c' := ⟨_, List.getElem?_eq_getElem (by have := HL.out; omega)⟩; have hWk := H.out.kp hKp.out
        have hpw : SlF wr 122 2 pairC (.slice (some ⟨pb, po, none⟩) z.nd.pairs.length pcap) z.nd.pairs := by
         have := hWk.r.pairs at_ z HZ.out
         rwa [HPV.out] at this
        have x0 := hpw.cell0 zae k hx rfl; have x1 := hpw.cell zae k 1 hx rfl; have hpf := zfn f z.nd.pairs z.nd.kids s0 HL.out (z.nd.pairs.length - (k + 1)) (k + 1) (by omega) (by omega); have hsu := zhk f z.nd.pairs z.nd.kids s0 k x c' hk1 hx hc' HL.out; have hpl := hpf.length_le; have hNN := HN.out
        have hlen1 : (pre0 ++ first ++ segW f z.nd.pairs z.nd.kids s0 k).length < N := by
         rw [hsu] at hpl; simp only [List.length_append, List.length_cons] at hpl hNN ⊢
         omega
        have hlen2 : (pre0 ++ first ++ segW f z.nd.pairs z.nd.kids s0 k ++ [x]).length + (f c').length ≤ N := by
         rw [hsu] at hpl; simp only [List.length_append, List.length_cons, List.length_nil] at hpl hNN ⊢
         omega
        obtain ⟨fn, tmps, assign, body, hy, hR⟩ := hY (n - 1) _ x wr hJs.out hlen1; dsimp only [zdu] at hy; have hkz2 : (k : Int) < (z.nd.pairs.length : Int) := (by omega); have hkz3 : (k : Int) + 1 < (z.nd.kids.length : Int) := (by have := HL.out; omega); have hkz4 : (0 : Int) ≤ (k : Int) + 1 := (by omega); have hkz5 : ((k : Int) + 1).toNat = k + 1 := (by omega); have HX := H_ hx; have HC' := H_ hc'; have HSU := H_ hsu; have HPF := H_ hpf; have hbl2 : n₀ ≤ wr.heap.size := Nat.le_trans hsz0 hKp.out.size; have hpbl : pb < wr.heap.size := hpw.lt pb rfl; have hWlt : W.heap.size < wr.heap.size := zaa hbp; clear hx hpw hc' hsu hpf hpl hNN hlen1
        gi_wp2
        refine ⟨hdd _, hR.mono ?_⟩; rintro e W3 (⟨rfl, hJ3, hk3⟩ | ⟨rfl, hJx3⟩)
        · have hb3 := (hk3.rows _ _ _ _ hbp (by decide) (by omega)).trans hbp
          have q0 : W3.cell? ⟨W.heap.size, 0, none⟩ = some (.slice (some ⟨pb, po, none⟩) z.nd.pairs.length pcap) := (by simp [World.cell?, hb3]); have q1 : W3.cell? ⟨W.heap.size, 1, none⟩ = some (.slice (some ⟨kb, ko, none⟩) z.nd.kids.length kcap) := (by simp [World.cell?, hb3]); have hW3 := hWk.kp hk3
          have hkq : W3.cell? ⟨kb, ko + (k + 1), none⟩ = some (.int .i64 (c' : Int)) := by
           have hh := hW3.r.kids at_ z HZ.out; rw [HKV.out] at hh; exact hh.cell1 zah _ HC'.out rfl
          have hkb3 : kb < W3.heap.size := World.block_lt_of_cell? _ _ hkq; have hih := HIH.out (n - 1) c' _ W3 (List.mem_of_getElem? HC'.out) hW3 hlen2 hJ3; have HI2 := H_ hih; have HKP3 := H_ hk3; have HB3 := H_ hb3; clear hJ3 hJs p0 p1 x0 x1 hih hk3 hb3 hW3 hWk hlen2
          gi_wp2_with (first
           | (refine ⟨trivial, hdd _, ?_⟩; gi_at_call 153; refine HI2.out.mono ?_; rintro e w4 (⟨rfl, hJ4, hk4⟩ | ⟨rfl, pre, hpre, hx4⟩)))
          · have hb4 := (hk4.rows _ _ _ _ HB3.out (by decide) (by omega)).trans HB3.out
            have HJ4 := H_ hJ4; have HK4 := H_ hk4; clear hJ4 hk4
            gi_wp2
            go_roundw
            case rel =>
             refine ⟨k + 1, by omega, by omega, by go_num, H_ ?_, H_ ((hKp.out.trans HKP3.out).trans HK4.out), hb4⟩; have := HJ4.out; rw [HSU.out]; simpa using this
            case measure => simp [intOf]; omega
          have HX4 := H_ hx4
          have HPRE := H_ hpre; clear hx4 hpre
          gi_wp2
          go_ret; refine .inr ⟨rfl, first ++ (segW f z.nd.pairs z.nd.kids s0 k ++ x :: pre), ?_, by have := HX4.out; simpa using this⟩; refine (List.prefix_append_right_inj first).2 (List.IsPrefix.trans ?_ HPF.out); rw [HSU.out]; refine (List.prefix_append_right_inj _).2 ?_; exact List.cons_prefix_cons.2 ⟨rfl, HPRE.out⟩
        have HJ3 := H_ hJx3
        clear hJx3 hJs p0 p1 x0 x1 hWk
        gi_wp2
        go_ret; refine .inr ⟨rfl, first ++ (segW f z.nd.pairs z.nd.kids s0 k ++ [x]), ?_, by have := HJ3.out; simpa using this⟩; refine (List.prefix_append_right_inj first).2 (List.IsPrefix.trans ?_ HPF.out); rw [HSU.out]; refine (List.prefix_append_right_inj _).2 ?_; exact List.cons_prefix_cons.2 ⟨rfl, List.nil_prefix⟩
      obtain rfl : k = z.nd.pairs.length := by omega
      gi_wp2
      go_ret; exact .inl ⟨rfl, by have := hJs.out; rw [zju f _ _ _ HL.out, List.append_assoc] at this; exact this, hKp.out⟩
   have HX := H_ hx
   have HPRE := H_ hpre; clear hx hpre
   gi_wp2
   go_ret; refine .inr ⟨rfl, pre, ?_, HX.out⟩; rw [HFF.out]; exact HPRE.out.trans (List.prefix_append _ _)
 have hff : first = [] := by have := HFI.out; simpa using this
 gi_wp2_with (first
  | (refine ⟨trivial, hdd _, ?_⟩; gi_at_call 157; refine (callsIn_wide.2 hsp).mono ?_; clear hsp; rintro e w' ⟨rfl, rfl⟩))
 refine ⟨trivial, ?_⟩; have HB2 := HB0; have HJ2 : Hid (J (pre0 ++ first) _) := H_ (by rw [hff, List.append_nil]; exact HJ0.out); have HK2 := HKP0; generalize (W.alloc (Obj.cells #[.slice pa z.nd.pairs.length pcap, .slice (some ⟨kb, ko, none⟩) z.nd.kids.length kcap] 231)) = w2 at *; have HFF := H_ hff; clear hff k0 n0 n1 c0; have hb2 : w2.heap[W.heap.size]? = some (.cells #[.slice pa z.nd.pairs.length pcap, .slice (some ⟨kb, ko, none⟩) z.nd.kids.length kcap] 231 (0, 0)) := HB2.out; have q0 : w2.cell? ⟨W.heap.size, 0, none⟩ = some (.slice pa z.nd.pairs.length pcap) := (by simp [World.cell?, hb2]); have q1 : w2.cell? ⟨W.heap.size, 1, none⟩ = some (.slice (some ⟨kb, ko, none⟩) z.nd.kids.length kcap) := (by simp [World.cell?, hb2]); clear hb2
 gi_wp2
 gi_loopw [9] (fun i wr => ∃ k : Nat, s0 ≤ k ∧ k ≤ z.nd.pairs.length ∧ i = .int .i64 k ∧ Hid (J (pre0 ++ first ++ segW f z.nd.pairs z.nd.kids s0 k) wr) ∧ Hid (KpR n₀ Bo W wr) ∧ wr.heap[W.heap.size]? = some (.cells #[.slice pa z.nd.pairs.length pcap, .slice (some ⟨kb, ko, none⟩) z.nd.kids.length kcap] 231 (0, 0)))
  (fun i _ => z.nd.pairs.length - (intOf i).toNat)
 case atStart => exact ⟨s0, Nat.le_refl _, hsl, rfl, H_ (by rw [zlf, List.append_nil]; exact HJ2.out), HK2, HB2.out⟩
 case round =>
  obtain ⟨k, hk1, hk2, rfl, hJs, hKp, hbp⟩ := hrel; have p0 : wr.cell? ⟨W.heap.size, 0, none⟩ = some (.slice pa z.nd.pairs.length pcap) := (by simp [World.cell?, hbp]); have p1 : wr.cell? ⟨W.heap.size, 1, none⟩ = some (.slice (some ⟨kb, ko, none⟩) z.nd.kids.length kcap) := (by simp [World.cell?, hbp]); by_cases hlt : k < z.nd.pairs.length
  · obtain ⟨pb, po, rfl⟩ := HA.out (by omega)
    obtain ⟨x, hx⟩ : ∃ x, z.nd.pairs[k]? = some x := ⟨_, List.getElem?_eq_getElem hlt⟩; obtain ⟨c', hc'⟩ : ∃ c', z.nd.kids[k + 1]? = some c' := ⟨_, List.getElem?_eq_getElem (by have := HL.out; omega)⟩; have hWk := H.out.kp hKp.out
    have hpw : SlF wr 122 2 pairC (.slice (some ⟨pb, po, none⟩) z.nd.pairs.length pcap) z.nd.pairs := by
     have := hWk.r.pairs at_ z HZ.out
     rwa [HPV.out] at this
    have x0 := hpw.cell0 zae k hx rfl; have x1 := hpw.cell zae k 1 hx rfl; have hpf := zfn f z.nd.pairs z.nd.kids s0 HL.out (z.nd.pairs.length - (k + 1)) (k + 1) (by omega) (by omega); have hsu := zhk f z.nd.pairs z.nd.kids s0 k x c' hk1 hx hc' HL.out; have hpl := hpf.length_le; have hNN := HN.out
    have hlen1 : (pre0 ++ first ++ segW f z.nd.pairs z.nd.kids s0 k).length < N := by
     rw [hsu] at hpl; simp only [List.length_append, List.length_cons] at hpl hNN ⊢
     omega
    have hlen2 : (pre0 ++ first ++ segW f z.nd.pairs z.nd.kids s0 k ++ [x]).length + (f c').length ≤ N := by
     rw [hsu] at hpl; simp only [List.length_append, List.length_cons, List.length_nil] at hpl hNN ⊢
     omega
    obtain ⟨fn, tmps, assign, body, hy, hR⟩ := hY (n - 1) _ x wr hJs.out hlen1; dsimp only [zdu] at hy; have hkz2 : (k : Int) < (z.nd.pairs.length : Int) := (by omega); have hkz3 : (k : Int) + 1 < (z.nd.kids.length : Int) := (by have := HL.out; omega); have hkz4 : (0 : Int) ≤ (k : Int) + 1 := (by omega); have hkz5 : ((k : Int) + 1).toNat = k + 1 := (by omega); have HX := H_ hx; have HC' := H_ hc'; have HSU := H_ hsu; have HPF := H_ hpf; have hbl2 : n₀ ≤ wr.heap.size := Nat.le_trans hsz0 hKp.out.size; have hpbl : pb < wr.heap.size := hpw.lt pb rfl; have hWlt : W.heap.size < wr.heap.size := zaa hbp; clear hx hpw hc' hsu hpf hpl hNN hlen1
    gi_wp2
    refine ⟨hdd _, hR.mono ?_⟩; rintro e W3 (⟨rfl, hJ3, hk3⟩ | ⟨rfl, hJx3⟩)
    · have hb3 := (hk3.rows _ _ _ _ hbp (by decide) (by omega)).trans hbp
      have q0 : W3.cell? ⟨W.heap.size, 0, none⟩ = some (.slice (some ⟨pb, po, none⟩) z.nd.pairs.length pcap) := (by simp [World.cell?, hb3]); have q1 : W3.cell? ⟨W.heap.size, 1, none⟩ = some (.slice (some ⟨kb, ko, none⟩) z.nd.kids.length kcap) := (by simp [World.cell?, hb3]); have hW3 := hWk.kp hk3
      have hkq : W3.cell? ⟨kb, ko + (k + 1), none⟩ = some (.int .i64 (c' : Int)) := by
       have hh := hW3.r.kids at_ z HZ.out; rw [HKV.out] at hh; exact hh.cell1 zah _ HC'.out rfl
      have hkb3 : kb < W3.heap.size := World.block_lt_of_cell? _ _ hkq; have hih := HIH.out (n - 1) c' _ W3 (List.mem_of_getElem? HC'.out) hW3 hlen2 hJ3; have HI2 := H_ hih; have HKP3 := H_ hk3; have HB3 := H_ hb3; clear hJ3 hJs p0 p1 x0 x1 hih hk3 hb3 hW3 hWk hlen2
      gi_wp2_with (first
       | (refine ⟨trivial, hdd _, ?_⟩; gi_at_call 153; refine HI2.out.mono ?_; rintro e w4 (⟨rfl, hJ4, hk4⟩ | ⟨rfl, pre, hpre, hx4⟩)))
      · have hb4 := (hk4.rows _ _ _ _ HB3.out (by decide) (by omega)).trans HB3.out
        have HJ4 := H_ hJ4; have HK4 := H_ hk4; clear hJ4 hk4
        gi_wp2
        go_roundw
        case rel =>
         refine ⟨k + 1, by omega, by omega, by go_num, H_ ?_, H_ ((hKp.out.trans HKP3.out).trans HK4.out), hb4⟩; have := HJ4.out; rw [HSU.out]; simpa using this
        case measure => simp [intOf]; omega
      have HX4 := H_ hx4
      have HPRE := H_ hpre; clear hx4 hpre
      gi_wp2
      go_ret; refine .inr ⟨rfl, first ++ (segW f z.nd.pairs z.nd.kids s0 k ++ x :: pre), ?_, by have := HX4.out; simpa using this⟩; refine (List.prefix_append_right_inj first).2 (List.IsPrefix.trans ?_ HPF.out); rw [HSU.out]; refine (List.prefix_append_right_inj _).2 ?_; exact List.cons_prefix_cons.2 ⟨rfl, HPRE.out⟩
    have HJ3 := H_ hJx3
    clear hJx3 hJs p0 p1 x0 x1 hWk
    gi_wp2
    go_ret; refine .inr ⟨rfl, first ++ (segW f z.nd.pairs z.nd.kids s0 k ++ [x]), ?_, by have := HJ3.out; simpa using this⟩; refine (List.prefix_append_right_inj first).2 (List.IsPrefix.trans ?_ HPF.out); rw [HSU.out]; refine (List.prefix_append_right_inj _).2 ?_; exact List.cons_prefix_cons.2 ⟨rfl, List.nil_prefix⟩
  obtain rfl : k = z.nd.pairs.length := by omega
  gi_wp2
  go_ret; exact .inl ⟨rfl, by have := hJs.out; rw [zju f _ _ _ HL.out, List.append_assoc] at this; exact this, hKp.out⟩
end Go.Proofs.YthljnnjpmdgkoaaGreat