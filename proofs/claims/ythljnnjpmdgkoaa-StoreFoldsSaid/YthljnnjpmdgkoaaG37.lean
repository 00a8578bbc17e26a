/- The package index: walk at a node with kids, by the depth. The condition: not too many nodes. The package index, at a tree of any size: the iterator, Range, and that such a tree is what the store needs (treeOkN). The condition: not too many keys. -/
import Derived.Test.YthljnnjpmdgkoaaG36
import Derived.Test.YthljnnjpmdgkoaaG35
import Derived.Test.YthljnnjpmdgkoaaG01
namespace Go.Proofs.Ythljnnjpmdgkoaa
open Go Go.Proofs Go.RowKit Go.Shelf
set_option maxRecDepth 100000
attribute [local go_sem] Oper.semAt_some

theorem rwv_snoc (f : Nat → Pairs) : ∀ (P : Pairs) (K : List Nat) (p : ByteArray × Int) (k : Nat), K.length = P.length → rwv f (P ++ [p]) (K ++ [k]) = rwv f P K ++ p :: f k
  | [], [], p, k, _ => by simp [rwv]
  | [], _ :: _, _, _, h => by simp at h
  | _ :: _, [], _, _, h => by simp at h
  | q :: P, c :: K, p, k, h => by simp [rwv, rwv_snoc f P K p k (by simpa using h)]

/-- What a walk below a node comes to. -/
def WalkPost (n₀ Bo : Nat) (J Jx : Pairs → World → Prop) (pre0 S : Pairs) (W : World) (e : Ending) (W' : World) : Prop :=
  (e = .returned (.bool true) ∧ J (pre0 ++ S) W' ∧ KpR n₀ Bo W W') ∨ (e = .returned (.bool false) ∧ ∃ pre, pre <+: S ∧ Jx (pre0 ++ pre) W')

/-- The pairs and the kids behind the first place, as far as a round. -/
def segW (f : Nat → Pairs) (P : Pairs) (K : List Nat) (s0 k : Nat) : Pairs := rwv f ((P.drop s0).take (k - s0)) ((K.drop (s0 + 1)).take (k - s0))
theorem segW_zero (f : Nat → Pairs) (P : Pairs) (K : List Nat) (s0 : Nat) : segW f P K s0 s0 = [] := by unfold segW; simp [rwv]
theorem segW_succ (f : Nat → Pairs) (P : Pairs) (K : List Nat) (s0 k : Nat) (x : ByteArray × Int) (c : Nat) (h : s0 ≤ k) (hx : P[k]? = some x) (hc : K[k + 1]? = some c) (hl : K.length = P.length + 1) : segW f P K s0 (k + 1) = segW f P K s0 k ++ x :: f c := by
  have hk := (List.getElem?_eq_some_iff.1 hx).1
  unfold segW
  rw [show k + 1 - s0 = (k - s0) + 1 by omega, List.take_add_one, List.take_add_one, List.getElem?_drop, List.getElem?_drop, show s0 + (k - s0) = k by omega, show s0 + 1 + (k - s0) = k + 1 by omega, hx, hc]
  exact rwv_snoc f _ _ x c (by simp; omega)
theorem segW_end (f : Nat → Pairs) (P : Pairs) (K : List Nat) (s0 : Nat) (hl : K.length = P.length + 1) : segW f P K s0 P.length = rwv f (P.drop s0) (K.drop (s0 + 1)) := by
  unfold segW
  rw [List.take_of_length_le (by simp), List.take_of_length_le (by simp; omega)]
theorem segW_prefix (f : Nat → Pairs) (P : Pairs) (K : List Nat) (s0 : Nat) (hl : K.length = P.length + 1) : ∀ (m k : Nat), k + m = P.length → s0 ≤ k → segW f P K s0 k <+: rwv f (P.drop s0) (K.drop (s0 + 1))
  | 0, k, h, _ => by obtain rfl : k = P.length := by omega
                     rw [segW_end f P K s0 hl]; exact List.prefix_refl _
  | m + 1, k, h, hs => by
    have ih := segW_prefix f P K s0 hl m (k + 1) (by omega) (by omega)
    rw [segW_succ f P K s0 k _ _ hs (List.getElem?_eq_getElem (by omega)) (List.getElem?_eq_getElem (by omega)) hl] at ih
    exact (List.prefix_append _ _).trans ih

set_option maxHeartbeats 4000000 in
theorem walk1N_in (n l t n₀ Bo : Nat) (hBo : Bo < n₀) (nv fv : Value) (Z : List Nz) (fl : List Nat) (root : Nat) (many : Int) (frm : ByteArray) (J Jx : Pairs → World → Prop) (N : Nat)
    (hJ : ∀ pre W W', J pre W → Fr No W W' → J pre W')
    (hY : ∀ m pre x W, J pre W → pre.length < N → YieldAt Fence.wide m Try.prog l (pairEnc x) W fun e W' =>
      (e = .returned (.bool true) ∧ J (pre ++ [x]) W' ∧ KpR n₀ Bo W W') ∨ (e = .returned (.bool false) ∧ Jx (pre ++ [x]) W'))
    (at_ : Nat) (z : Nz) (hz : Z[at_]? = some z) (h9 : z.nd.pairs.length ≤ 9) (hl : z.nd.kids.length = z.nd.pairs.length + 1) (f : Nat → Pairs)
    (hIH : ∀ (m c : Nat) (pre : Pairs) (W : World), c ∈ z.nd.kids → WalkPre W t n₀ Bo nv fv Z fl root many → pre.length + (f c).length ≤ N → J pre W →
      CallsIn Fence.wide m Try.prog 128 #[.pointer (some ⟨t, 0, none⟩), .int .i64 c, .string frm, .func (.yield l) #[] #[]] W (WalkPost n₀ Bo J Jx pre (f c) W))
    (pre0 first : Pairs) (hfirst : first = if hitOf z.nd.pairs frm then [] else f (z.nd.kids.getD (spotOf z.nd.pairs frm) 0))
    (hN : pre0.length + (first ++ rwv f (z.nd.pairs.drop (spotOf z.nd.pairs frm)) (z.nd.kids.drop (spotOf z.nd.pairs frm + 1))).length ≤ N)
    (W : World) (h : WalkPre W t n₀ Bo nv fv Z fl root many) (h0 : J pre0 W) :
    CallsIn Fence.wide n Try.prog 128 #[.pointer (some ⟨t, 0, none⟩), .int .i64 at_, .string frm, .func (.yield l) #[] #[]] W
      (WalkPost n₀ Bo J Jx pre0 (first ++ rwv f (z.nd.pairs.drop (spotOf z.nd.pairs frm)) (z.nd.kids.drop (spotOf z.nd.pairs frm + 1))) W) := by
  have hsp := spotZ h.r at_ z hz h9 h.few frm
  unfold spotTuple at hsp
  have hzl := h.few
  have hatl : at_ < Z.length := (List.getElem?_eq_some_iff.1 hz).1
  obtain ⟨nb, no, cap, rfl, hcap⟩ := h.r.headLen (by omega)
  have c0 := h.r.obj.cell 0 rfl
  obtain ⟨n0, n1, _, _⟩ := h.r.look at_ z hz
  obtain ⟨pa, pcap, hpv, hc3, hc4, hpa⟩ := (h.r.pairs at_ z hz).shape
  obtain ⟨ka, kcap, hkv, hc5, hc6, hka⟩ := (h.r.kids at_ z hz).shape
  obtain ⟨kb, ko, rfl⟩ := hka (by omega)
  rw [hpv] at n0
  rw [hkv] at n1
  have hsl := spotOf_le z.nd.pairs frm
  have hatz : (at_ : Int) < (Z.length : Int) := by omega
  have hltW : t < W.heap.size := h.r.obj.lt
  have hlnb : nb < W.heap.size := h.r.nodes.lt nb rfl
  have hkb : kb < n₀ ∧ kb ≠ Bo := h.low kb (.inr (.inr (.inr ⟨at_, z, hz, .inr (by rw [hkv]; rfl)⟩)))
  obtain ⟨c, hc⟩ : ∃ c, z.nd.kids[spotOf z.nd.pairs frm]? = some c := ⟨_, List.getElem?_eq_getElem (by omega)⟩
  have hcd : z.nd.kids.getD (spotOf z.nd.pairs frm) 0 = c := by simp [List.getD, hc]
  rw [hcd] at hfirst
  have hkk := h.r.kids at_ z hz
  rw [hkv] at hkk
  have k0 := hkk.cell1 nat1_length _ hc rfl
  have hcm := List.mem_of_getElem? hc
  have H := Lib.hid h
  have HA := Lib.hid hpa
  have HZ := Lib.hid hz
  have HPV := Lib.hid hpv
  have HKV := Lib.hid hkv
  have HIH := Lib.hid hIH
  have HFI := Lib.hid hfirst
  have HN := Lib.hid hN
  have HL := Lib.hid hl
  have HCM := Lib.hid hcm
  have hsz0 := h.size
  have hlkb : kb < W.heap.size := by omega
  have hkz : (0 : Int) < (z.nd.kids.length : Int) := by omega
  have hsz : (spotOf z.nd.pairs frm : Int) < (z.nd.kids.length : Int) := by omega
  have hBW : Bo < W.heap.size := by omega
  clear h hpa hz hpv hkv hka hIH hfirst hN hl hkk hcd hc hcm
  refine callsIn_of_wp Try.func128 rfl trivial ?_ rfl
  simp only [Try.ntmps128, List.size_toArray, List.length_cons, List.length_nil, Nat.reduceAdd, Nat.reduceSub, Array.replicate_succ, Array.replicate_zero, List.push_toArray, List.append_toArray, List.nil_append, List.cons_append]
  generalize hitOf z.nd.pairs frm = hit at *
  generalize spotOf z.nd.pairs frm = s0 at *
  have hA0 : Fr No W (W.alloc (Obj.cells #[.slice pa z.nd.pairs.length pcap, .slice (some ⟨kb, ko, none⟩) z.nd.kids.length kcap] 198)) := (Fr.refl No W).alloc _
  have hkp0 : KpR n₀ Bo W (W.alloc (Obj.cells #[.slice pa z.nd.pairs.length pcap, .slice (some ⟨kb, ko, none⟩) z.nd.kids.length kcap] 198)) := KpR.of_fr hA0 hsz0 (fun _ s => s.elim)
  have hb0 : (W.alloc (Obj.cells #[.slice pa z.nd.pairs.length pcap, .slice (some ⟨kb, ko, none⟩) z.nd.kids.length kcap] 198)).heap[W.heap.size]? = some (.cells #[.slice pa z.nd.pairs.length pcap, .slice (some ⟨kb, ko, none⟩) z.nd.kids.length kcap] 198 (0, 0)) := heap_alloc_new _ _
  have HA0 := Lib.hid hA0
  have HKP0 := Lib.hid hkp0
  have HB0 := Lib.hid hb0
  have HJ0 := Lib.hid (hJ _ _ _ h0 hA0)
  clear hA0 hkp0 hb0 h0
  cases hit
  · have hff : first = f c := by have := HFI.out; simpa using this
    have hih := HIH.out (n - 1) c pre0 _ HCM.out (H.out.kp HKP0.out) (by have := HN.out; rw [hff] at this; simp only [List.length_append] at this; omega) HJ0.out
    have HI1 := Lib.hid hih
    have HFF := Lib.hid hff
    clear hih hff
    gi_wp2_with (first
      | (refine ⟨trivial, hdd _, ?_⟩; gi_at_call 130; refine (callsIn_wide.2 hsp).mono ?_; clear hsp; rintro e w' ⟨rfl, rfl⟩)
      | (refine ⟨trivial, hdd _, ?_⟩; gi_at_call 128; refine HI1.out.mono ?_; rintro e w2 (⟨rfl, hJ2, hk2⟩ | ⟨rfl, pre, hpre, hx⟩)))
    · have hb2 := (hk2.rows _ _ _ _ HB0.out (by decide) (by omega)).trans HB0.out
      have HB2 := Lib.hid hb2
      have HJ2 : Hid (J (pre0 ++ first) w2) := Lib.hid (by rw [HFF.out]; exact hJ2)
      have HK2 := Lib.hid (HKP0.out.trans hk2)
      clear hb2 hJ2 hk2 k0 n0 n1 c0
      have hb2 : w2.heap[W.heap.size]? = some (.cells #[.slice pa z.nd.pairs.length pcap, .slice (some ⟨kb, ko, none⟩) z.nd.kids.length kcap] 198 (0, 0)) := HB2.out
      have q0 : w2.cell? ⟨W.heap.size, 0, none⟩ = some (.slice pa z.nd.pairs.length pcap) := by simp [World.cell?, hb2]
      have q1 : w2.cell? ⟨W.heap.size, 1, none⟩ = some (.slice (some ⟨kb, ko, none⟩) z.nd.kids.length kcap) := by simp [World.cell?, hb2]
      clear hb2
      gi_wp2
      gi_loopw [9] (fun i wr => ∃ k : Nat, s0 ≤ k ∧ k ≤ z.nd.pairs.length ∧ i = .int .i64 k ∧ Hid (J (pre0 ++ first ++ segW f z.nd.pairs z.nd.kids s0 k) wr) ∧ Hid (KpR n₀ Bo W wr) ∧ wr.heap[W.heap.size]? = some (.cells #[.slice pa z.nd.pairs.length pcap, .slice (some ⟨kb, ko, none⟩) z.nd.kids.length kcap] 198 (0, 0)))
        (fun i _ => z.nd.pairs.length - (intOf i).toNat)
      case atStart => exact ⟨s0, Nat.le_refl _, hsl, rfl, Lib.hid (by rw [segW_zero, List.append_nil]; exact HJ2.out), HK2, HB2.out⟩
      case round =>
        obtain ⟨k, hk1, hk2, rfl, hJs, hKp, hbp⟩ := hrel
        have p0 : wr.cell? ⟨W.heap.size, 0, none⟩ = some (.slice pa z.nd.pairs.length pcap) := by simp [World.cell?, hbp]
        have p1 : wr.cell? ⟨W.heap.size, 1, none⟩ = some (.slice (some ⟨kb, ko, none⟩) z.nd.kids.length kcap) := by simp [World.cell?, hbp]
        by_cases hlt : k < z.nd.pairs.length
        · obtain ⟨pb, po, rfl⟩ := HA.out (by omega)
          obtain ⟨x, hx⟩ : ∃ x, z.nd.pairs[k]? = some x := ⟨_, List.getElem?_eq_getElem hlt⟩
          obtain ⟨c', hc'⟩ : ∃ c', z.nd.kids[k + 1]? = some c' := ⟨_, List.getElem?_eq_getElem (by have := HL.out; omega)⟩
          have hWk := H.out.kp hKp.out
          have hpw : SlF wr 127 2 pairC (.slice (some ⟨pb, po, none⟩) z.nd.pairs.length pcap) z.nd.pairs := by
            have := hWk.r.pairs at_ z HZ.out
            rwa [HPV.out] at this
          have x0 := hpw.cell0 pairC_length k hx rfl
          have x1 := hpw.cell pairC_length k 1 hx rfl
          have hpf := segW_prefix f z.nd.pairs z.nd.kids s0 HL.out (z.nd.pairs.length - (k + 1)) (k + 1) (by omega) (by omega)
          have hsu := segW_succ f z.nd.pairs z.nd.kids s0 k x c' hk1 hx hc' HL.out
          have hpl := hpf.length_le
          have hNN := HN.out
          have hlen1 : (pre0 ++ first ++ segW f z.nd.pairs z.nd.kids s0 k).length < N := by
            rw [hsu] at hpl
            simp only [List.length_append, List.length_cons] at hpl hNN ⊢
            omega
          have hlen2 : (pre0 ++ first ++ segW f z.nd.pairs z.nd.kids s0 k ++ [x]).length + (f c').length ≤ N := by
            rw [hsu] at hpl
            simp only [List.length_append, List.length_cons, List.length_nil] at hpl hNN ⊢
            omega
          obtain ⟨fn, tmps, assign, body, hy, hR⟩ := hY (n - 1) _ x wr hJs.out hlen1
          dsimp only [pairEnc] at hy
          have hkz2 : (k : Int) < (z.nd.pairs.length : Int) := by omega
          have hkz3 : (k : Int) + 1 < (z.nd.kids.length : Int) := by have := HL.out; omega
          have hkz4 : (0 : Int) ≤ (k : Int) + 1 := by omega
          have hkz5 : ((k : Int) + 1).toNat = k + 1 := by omega
          have HX := Lib.hid hx
          have HC' := Lib.hid hc'
          have HSU := Lib.hid hsu
          have HPF := Lib.hid hpf
          have hbl2 : n₀ ≤ wr.heap.size := Nat.le_trans hsz0 hKp.out.size
          have hpbl : pb < wr.heap.size := hpw.lt pb rfl
          have hWlt : W.heap.size < wr.heap.size := heap_lt hbp
          clear hx hpw hc' hsu hpf hpl hNN hlen1
          gi_wp2
          refine ⟨hdd _, hR.mono ?_⟩
          rintro e W3 (⟨rfl, hJ3, hk3⟩ | ⟨rfl, hJx3⟩)
          · have hb3 := (hk3.rows _ _ _ _ hbp (by decide) (by omega)).trans hbp
            have q0 : W3.cell? ⟨W.heap.size, 0, none⟩ = some (.slice (some ⟨pb, po, none⟩) z.nd.pairs.length pcap) := by simp [World.cell?, hb3]
            have q1 : W3.cell? ⟨W.heap.size, 1, none⟩ = some (.slice (some ⟨kb, ko, none⟩) z.nd.kids.length kcap) := by simp [World.cell?, hb3]
            have hW3 := hWk.kp hk3
            have hkq : W3.cell? ⟨kb, ko + (k + 1), none⟩ = some (.int .i64 (c' : Int)) := by
              have hh := hW3.r.kids at_ z HZ.out
              rw [HKV.out] at hh
              exact hh.cell1 nat1_length _ HC'.out rfl
            have hkb3 : kb < W3.heap.size := World.block_lt_of_cell? _ _ hkq
            have hih := HIH.out (n - 1) c' _ W3 (List.mem_of_getElem? HC'.out) hW3 hlen2 hJ3
            have HI2 := Lib.hid hih
            have HKP3 := Lib.hid hk3
            have HB3 := Lib.hid hb3
            clear hJ3 hJs p0 p1 x0 x1 hih hk3 hb3 hW3 hWk hlen2
            gi_wp2_with (first
              | (refine ⟨trivial, hdd _, ?_⟩; gi_at_call 128; refine HI2.out.mono ?_; rintro e w4 (⟨rfl, hJ4, hk4⟩ | ⟨rfl, pre, hpre, hx4⟩)))
            · have hb4 := (hk4.rows _ _ _ _ HB3.out (by decide) (by omega)).trans HB3.out
              have HJ4 := Lib.hid hJ4
              have HK4 := Lib.hid hk4
              clear hJ4 hk4
              gi_wp2
              go_roundw
              case rel =>
                refine ⟨k + 1, by omega, by omega, by go_num, Lib.hid ?_, Lib.hid ((hKp.out.trans HKP3.out).trans HK4.out), hb4⟩
                have := HJ4.out
                rw [HSU.out]
                simpa using this
              case measure => simp [intOf]; omega
            · have HX4 := Lib.hid hx4
              have HPRE := Lib.hid hpre
              clear hx4 hpre
              gi_wp2
              go_ret
              refine .inr ⟨rfl, first ++ (segW f z.nd.pairs z.nd.kids s0 k ++ x :: pre), ?_, by have := HX4.out; simpa using this⟩
              refine (List.prefix_append_right_inj first).2 (List.IsPrefix.trans ?_ HPF.out)
              rw [HSU.out]
              refine (List.prefix_append_right_inj _).2 ?_
              exact List.cons_prefix_cons.2 ⟨rfl, HPRE.out⟩
          · have HJ3 := Lib.hid hJx3
            clear hJx3 hJs p0 p1 x0 x1 hWk
            gi_wp2
            go_ret
            refine .inr ⟨rfl, first ++ (segW f z.nd.pairs z.nd.kids s0 k ++ [x]), ?_, by have := HJ3.out; simpa using this⟩
            refine (List.prefix_append_right_inj first).2 (List.IsPrefix.trans ?_ HPF.out)
            rw [HSU.out]
            refine (List.prefix_append_right_inj _).2 ?_
            exact List.cons_prefix_cons.2 ⟨rfl, List.nil_prefix⟩
        · obtain rfl : k = z.nd.pairs.length := by omega
          gi_wp2
          go_ret
          exact .inl ⟨rfl, by have := hJs.out; rw [segW_end f _ _ _ HL.out, List.append_assoc] at this; exact this, hKp.out⟩
    · have HX := Lib.hid hx
      have HPRE := Lib.hid hpre
      clear hx hpre
      gi_wp2
      go_ret
      refine .inr ⟨rfl, pre, ?_, HX.out⟩
      rw [HFF.out]
      exact HPRE.out.trans (List.prefix_append _ _)
  · have hff : first = [] := by have := HFI.out; simpa using this
    gi_wp2_with (first
      | (refine ⟨trivial, hdd _, ?_⟩; gi_at_call 130; refine (callsIn_wide.2 hsp).mono ?_; clear hsp; rintro e w' ⟨rfl, rfl⟩))
    refine ⟨trivial, ?_⟩
    have HB2 := HB0
    have HJ2 : Hid (J (pre0 ++ first) _) := Lib.hid (by rw [hff, List.append_nil]; exact HJ0.out)
    have HK2 := HKP0
    generalize (W.alloc (Obj.cells #[.slice pa z.nd.pairs.length pcap, .slice (some ⟨kb, ko, none⟩) z.nd.kids.length kcap] 198)) = w2 at *
    have HFF := Lib.hid hff
    clear hff k0 n0 n1 c0
    have hb2 : w2.heap[W.heap.size]? = some (.cells #[.slice pa z.nd.pairs.length pcap, .slice (some ⟨kb, ko, none⟩) z.nd.kids.length kcap] 198 (0, 0)) := HB2.out
    have q0 : w2.cell? ⟨W.heap.size, 0, none⟩ = some (.slice pa z.nd.pairs.length pcap) := by simp [World.cell?, hb2]
    have q1 : w2.cell? ⟨W.heap.size, 1, none⟩ = some (.slice (some ⟨kb, ko, none⟩) z.nd.kids.length kcap) := by simp [World.cell?, hb2]
    clear hb2
    gi_wp2
    gi_loopw [9] (fun i wr => ∃ k : Nat, s0 ≤ k ∧ k ≤ z.nd.pairs.length ∧ i = .int .i64 k ∧ Hid (J (pre0 ++ first ++ segW f z.nd.pairs z.nd.kids s0 k) wr) ∧ Hid (KpR n₀ Bo W wr) ∧ wr.heap[W.heap.size]? = some (.cells #[.slice pa z.nd.pairs.length pcap, .slice (some ⟨kb, ko, none⟩) z.nd.kids.length kcap] 198 (0, 0)))
      (fun i _ => z.nd.pairs.length - (intOf i).toNat)
    case atStart => exact ⟨s0, Nat.le_refl _, hsl, rfl, Lib.hid (by rw [segW_zero, List.append_nil]; exact HJ2.out), HK2, HB2.out⟩
    case round =>
      obtain ⟨k, hk1, hk2, rfl, hJs, hKp, hbp⟩ := hrel
      have p0 : wr.cell? ⟨W.heap.size, 0, none⟩ = some (.slice pa z.nd.pairs.length pcap) := by simp [World.cell?, hbp]
      have p1 : wr.cell? ⟨W.heap.size, 1, none⟩ = some (.slice (some ⟨kb, ko, none⟩) z.nd.kids.length kcap) := by simp [World.cell?, hbp]
      by_cases hlt : k < z.nd.pairs.length
      · obtain ⟨pb, po, rfl⟩ := HA.out (by omega)
        obtain ⟨x, hx⟩ : ∃ x, z.nd.pairs[k]? = some x := ⟨_, List.getElem?_eq_getElem hlt⟩
        obtain ⟨c', hc'⟩ : ∃ c', z.nd.kids[k + 1]? = some c' := ⟨_, List.getElem?_eq_getElem (by have := HL.out; omega)⟩
        have hWk := H.out.kp hKp.out
        have hpw : SlF wr 127 2 pairC (.slice (some ⟨pb, po, none⟩) z.nd.pairs.length pcap) z.nd.pairs := by
          have := hWk.r.pairs at_ z HZ.out
          rwa [HPV.out] at this
        have x0 := hpw.cell0 pairC_length k hx rfl
        have x1 := hpw.cell pairC_length k 1 hx rfl
        have hpf := segW_prefix f z.nd.pairs z.nd.kids s0 HL.out (z.nd.pairs.length - (k + 1)) (k + 1) (by omega) (by omega)
        have hsu := segW_succ f z.nd.pairs z.nd.kids s0 k x c' hk1 hx hc' HL.out
        have hpl := hpf.length_le
        have hNN := HN.out
        have hlen1 : (pre0 ++ first ++ segW f z.nd.pairs z.nd.kids s0 k).length < N := by
          rw [hsu] at hpl
          simp only [List.length_append, List.length_cons] at hpl hNN ⊢
          omega
        have hlen2 : (pre0 ++ first ++ segW f z.nd.pairs z.nd.kids s0 k ++ [x]).length + (f c').length ≤ N := by
          rw [hsu] at hpl
          simp only [List.length_append, List.length_cons, List.length_nil] at hpl hNN ⊢
          omega
        obtain ⟨fn, tmps, assign, body, hy, hR⟩ := hY (n - 1) _ x wr hJs.out hlen1
        dsimp only [pairEnc] at hy
        have hkz2 : (k : Int) < (z.nd.pairs.length : Int) := by omega
        have hkz3 : (k : Int) + 1 < (z.nd.kids.length : Int) := by have := HL.out; omega
        have hkz4 : (0 : Int) ≤ (k : Int) + 1 := by omega
        have hkz5 : ((k : Int) + 1).toNat = k + 1 := by omega
        have HX := Lib.hid hx
        have HC' := Lib.hid hc'
        have HSU := Lib.hid hsu
        have HPF := Lib.hid hpf
        have hbl2 : n₀ ≤ wr.heap.size := Nat.le_trans hsz0 hKp.out.size
        have hpbl : pb < wr.heap.size := hpw.lt pb rfl
        have hWlt : W.heap.size < wr.heap.size := heap_lt hbp
        clear hx hpw hc' hsu hpf hpl hNN hlen1
        gi_wp2
        refine ⟨hdd _, hR.mono ?_⟩
        rintro e W3 (⟨rfl, hJ3, hk3⟩ | ⟨rfl, hJx3⟩)
        · have hb3 := (hk3.rows _ _ _ _ hbp (by decide) (by omega)).trans hbp
          have q0 : W3.cell? ⟨W.heap.size, 0, none⟩ = some (.slice (some ⟨pb, po, none⟩) z.nd.pairs.length pcap) := by simp [World.cell?, hb3]
          have q1 : W3.cell? ⟨W.heap.size, 1, none⟩ = some (.slice (some ⟨kb, ko, none⟩) z.nd.kids.length kcap) := by simp [World.cell?, hb3]
          have hW3 := hWk.kp hk3
          have hkq : W3.cell? ⟨kb, ko + (k + 1), none⟩ = some (.int .i64 (c' : Int)) := by
            have hh := hW3.r.kids at_ z HZ.out
            rw [HKV.out] at hh
            exact hh.cell1 nat1_length _ HC'.out rfl
          have hkb3 : kb < W3.heap.size := World.block_lt_of_cell? _ _ hkq
          have hih := HIH.out (n - 1) c' _ W3 (List.mem_of_getElem? HC'.out) hW3 hlen2 hJ3
          have HI2 := Lib.hid hih
          have HKP3 := Lib.hid hk3
          have HB3 := Lib.hid hb3
          clear hJ3 hJs p0 p1 x0 x1 hih hk3 hb3 hW3 hWk hlen2
          gi_wp2_with (first
            | (refine ⟨trivial, hdd _, ?_⟩; gi_at_call 128; refine HI2.out.mono ?_; rintro e w4 (⟨rfl, hJ4, hk4⟩ | ⟨rfl, pre, hpre, hx4⟩)))
          · have hb4 := (hk4.rows _ _ _ _ HB3.out (by decide) (by omega)).trans HB3.out
            have HJ4 := Lib.hid hJ4
            have HK4 := Lib.hid hk4
            clear hJ4 hk4
            gi_wp2
            go_roundw
            case rel =>
              refine ⟨k + 1, by omega, by omega, by go_num, Lib.hid ?_, Lib.hid ((hKp.out.trans HKP3.out).trans HK4.out), hb4⟩
              have := HJ4.out
              rw [HSU.out]
              simpa using this
            case measure => simp [intOf]; omega
          · have HX4 := Lib.hid hx4
            have HPRE := Lib.hid hpre
            clear hx4 hpre
            gi_wp2
            go_ret
            refine .inr ⟨rfl, first ++ (segW f z.nd.pairs z.nd.kids s0 k ++ x :: pre), ?_, by have := HX4.out; simpa using this⟩
            refine (List.prefix_append_right_inj first).2 (List.IsPrefix.trans ?_ HPF.out)
            rw [HSU.out]
            refine (List.prefix_append_right_inj _).2 ?_
            exact List.cons_prefix_cons.2 ⟨rfl, HPRE.out⟩
        · have HJ3 := Lib.hid hJx3
          clear hJx3 hJs p0 p1 x0 x1 hWk
          gi_wp2
          go_ret
          refine .inr ⟨rfl, first ++ (segW f z.nd.pairs z.nd.kids s0 k ++ [x]), ?_, by have := HJ3.out; simpa using this⟩
          refine (List.prefix_append_right_inj first).2 (List.IsPrefix.trans ?_ HPF.out)
          rw [HSU.out]
          refine (List.prefix_append_right_inj _).2 ?_
          exact List.cons_prefix_cons.2 ⟨rfl, List.nil_prefix⟩
      · obtain rfl : k = z.nd.pairs.length := by omega
        gi_wp2
        go_ret
        exact .inl ⟨rfl, by have := hJs.out; rw [segW_end f _ _ _ HL.out, List.append_assoc] at this; exact this, hKp.out⟩
end Go.Proofs.Ythljnnjpmdgkoaa

namespace Go.Proofs.Ythljnnjpmdgkoaa
open Go Go.Proofs Go.RowKit Go.Shelf
set_option maxRecDepth 100000
attribute [local go_sem] Oper.semAt_some

theorem walkN_in (l t n₀ Bo : Nat) (hBo : Bo < n₀) (nv fv : Value) (Z : List Nz) (fl : List Nat) (root : Nat) (many : Int) (frm : ByteArray) (J Jx : Pairs → World → Prop) (N : Nat)
    (hJ : ∀ pre W W', J pre W → Fr No W W' → J pre W')
    (hY : ∀ m pre x W, J pre W → pre.length < N → YieldAt Fence.wide m Try.prog l (pairEnc x) W fun e W' =>
      (e = .returned (.bool true) ∧ J (pre ++ [x]) W' ∧ KpR n₀ Bo W W') ∨ (e = .returned (.bool false) ∧ Jx (pre ++ [x]) W')) :
    ∀ (d n at_ : Nat) (pre0 : Pairs) (W : World), WalkPre W t n₀ Bo nv fv Z fl root many → nWf (ndsZ Z) d (ndA (ndsZ Z) at_) → at_ < (ndsZ Z).length → (ndA (ndsZ Z) at_).pairs.length ≤ 9 → Sorted (trav (ndsZ Z) d at_) →
      pre0.length + (fromT (trav (ndsZ Z) d at_) frm).length ≤ N → J pre0 W →
      CallsIn Fence.wide n Try.prog 128 #[.pointer (some ⟨t, 0, none⟩), .int .i64 at_, .string frm, .func (.yield l) #[] #[]] W (WalkPost n₀ Bo J Jx pre0 (fromT (trav (ndsZ Z) d at_) frm) W)
  | 0, n, at_, pre0, W, h, hw, hl, h9, hs, hN, h0 => by
    obtain ⟨z, hz, hnd⟩ := ndsZ_some hl
    have hf := walk_leaf (frm := frm) hs
    rw [hnd] at hf h9
    have hk0 : z.nd.kids = [] := by rw [← hnd]; exact hw
    rw [hf] at hN ⊢
    exact walk0_in n l t n₀ Bo hBo nv fv Z fl root many frm J Jx N hJ hY at_ z hz h9 hk0 pre0 hN W h h0
  | d + 1, n, at_, pre0, W, h, hw, hl, h9, hs, hN, h0 => by
    obtain ⟨z, hz, hnd⟩ := ndsZ_some hl
    have hf := walk_parts (frm := frm) hw hs
    have hkl : (ndA (ndsZ Z) at_).kids.length = (ndA (ndsZ Z) at_).pairs.length + 1 := hw.1
    have hK : ∀ c ∈ (ndA (ndsZ Z) at_).kids, Sorted (trav (ndsZ Z) d c) := by
      intro c hc
      obtain ⟨K1, K2, e⟩ := List.append_of_mem hc
      have hlen : K1.length + 1 + K2.length = (ndA (ndsZ Z) at_).pairs.length + 1 := by rw [e] at hkl; simp at hkl; omega
      have hn : ndA (ndsZ Z) at_ = ⟨(ndA (ndsZ Z) at_).pairs.take K1.length ++ [] ++ (ndA (ndsZ Z) at_).pairs.drop K1.length, K1 ++ [c] ++ K2⟩ := by
        rw [List.append_nil, List.take_append_drop, List.append_assoc, List.singleton_append, ← e]
      have ht := trav_parts (d := d) hn (by simp; omega) (by simp; omega) rfl
      rw [ht] at hs
      exact hs.left.right
    have hww := hw.2
    unfold kidA at hf
    rw [hnd] at hf h9 hkl hK hww
    rw [hf] at hN ⊢
    exact walk1N_in n l t n₀ Bo hBo nv fv Z fl root many frm J Jx N hJ hY at_ z hz h9 hkl (fun k => fromT (trav (ndsZ Z) d k) frm)
      (fun m c pre W' hc hW hp hJ' => walkN_in l t n₀ Bo hBo nv fv Z fl root many frm J Jx N hJ hY d m c pre W' hW (hww c hc).2.2.2 (hww c hc).1 (hww c hc).2.2.1 (hK c hc) hp hJ') pre0 _ rfl hN W h h0

theorem allN_in (n l t n₀ Bo Bt Bf : Nat) (hBo : Bo < n₀) (nv fv : Value) (Z : List Nz) (fl : List Nat) (root : Nat) (many : Int) (T : Pairs) (frm : ByteArray) (hg : GoodT (ndsZ Z) fl root T) (J Jx : Pairs → World → Prop)
    (hJ : ∀ pre W W', J pre W → Fr No W W' → J pre W')
    (hY : ∀ m pre x W, J pre W → pre.length < T.length → YieldAt Fence.wide m Try.prog l (pairEnc x) W fun e W' =>
      (e = .returned (.bool true) ∧ J (pre ++ [x]) W' ∧ KpR n₀ Bo W W') ∨ (e = .returned (.bool false) ∧ Jx (pre ++ [x]) W'))
    (W : World) (h : WalkPre W t n₀ Bo nv fv Z fl root many)
    (hbt : W.cell? ⟨Bt, 0, none⟩ = some (.pointer (some ⟨t, 0, none⟩))) (hbf : W.cell? ⟨Bf, 0, none⟩ = some (.string frm)) (h0 : J [] W) :
    CallsIn Fence.wide n Try.prog 127 #[.func (.yield l) #[] #[], .pointer (some ⟨Bt, 0, none⟩), .pointer (some ⟨Bf, 0, none⟩)] W fun e W' => (∃ v, e = .returned v) ∧
      ((∃ ys, ys = T.drop (spotOf T frm) ∧ J ys W') ∨ (∃ pre, pre <+: T.drop (spotOf T frm) ∧ Jx pre W')) := by
  have c2 := h.r.obj.cell 2 rfl
  obtain ⟨D, hD⟩ := hg
  have hft : fromT (trav (ndsZ Z) D root) frm = T.drop (spotOf T frm) := by rw [hD.trav]; exact (drop_spot T hD.sorted frm).symm
  have hw := walkN_in l t n₀ Bo hBo nv fv Z fl root many frm J Jx T.length hJ hY D (n - 1) root [] W.drew (h.kp (KpR.of_fr (Fr.refl No W).drew h.size fun _ s => s.elim)) hD.pt.wf hD.pt.lt hD.hi (by rw [hD.trav]; exact hD.sorted)
    (by rw [hft]; simp) (hJ _ _ _ h0 (Fr.refl _ _).drew)
  rw [hft] at hw
  unfold WalkPost at hw
  simp only [List.nil_append] at hw
  clear hJ hY h h0 hft hD
  refine callsIn_of_wp Try.func127 rfl trivial ?_ rfl
  simp only [Try.ntmps127, List.size_toArray, List.length_cons, List.length_nil, Nat.reduceAdd, Nat.reduceSub, Array.replicate_succ, Array.replicate_zero, List.push_toArray, List.append_toArray, List.nil_append, List.cons_append]
  gi_wp2
  refine wpIn_region_still_tail 7 (fun _ => trivial) rfl (fun f args w R h => callsIn_wide.2 h) (by kernel_rfl) (by kernel_rfl) ?_
  simp only [List.take_succ_cons, List.take_zero, List.drop_succ_cons, List.drop_zero]
  repeat (refine wpStill_step (fun K hK => ?_); go_simp; (try go_bits); refine hK _ ?_; clear hK K)
  refine wpStill_nil ?_
  gi_wp2_with (refine ⟨trivial, hdd _, ?_⟩; gi_at_call 128; refine hw.mono ?_; clear hw; rintro e W1 (⟨rfl, hJ1, hkk⟩ | ⟨rfl, q, hq, hx⟩))
  · go_end0
    exact ⟨⟨_, rfl⟩, .inl ⟨_, rfl, hJ1⟩⟩
  · go_end0
    exact ⟨⟨_, rfl⟩, .inr ⟨q, hq, hx⟩⟩

theorem allN_stops (n t n₀ Bo Bt Bf : Nat) (hBo : Bo < n₀) (nv fv : Value) (Z : List Nz) (fl : List Nat) (root : Nat) (many : Int) (T : Pairs) (frm : ByteArray) (hg : GoodT (ndsZ Z) fl root T)
    (w : World) (h : WalkPre w t n₀ Bo nv fv Z fl root many)
    (hbt : w.cell? ⟨Bt, 0, none⟩ = some (.pointer (some ⟨t, 0, none⟩))) (hbf : w.cell? ⟨Bf, 0, none⟩ = some (.string frm)) :
    SeqStopsK Fence.wide n Try.prog 127 #[.pointer (some ⟨Bt, 0, none⟩), .pointer (some ⟨Bf, 0, none⟩)] pairEnc (KpR n₀ Bo) (fun ys => ys = T.drop (spotOf T frm)) (fun pre => pre <+: T.drop (spotOf T frm)) T.length w := fun l J Jx W hW hJ _ hY h0 => by
  have hf : Fr No w W := ⟨hW.os, hW.tape, hW.output, hW.size, fun k hk _ => hW.block k hk⟩
  refine allN_in n l t n₀ Bo Bt Bf hBo nv fv Z fl root many T frm hg J Jx (fun pre A B hA hAB => ?_) (fun m pre x W1 h1 h2 => yield_anyDepth rfl m (hY pre x W1 h1 h2)) W
    (h.kp (KpR.of_fr hf h.size fun _ s => s.elim)) (hf.cell0 hbt) (hf.cell0 hbf) h0
  exact hJ _ _ _ none hA (grown_of_fr hAB) (fun r e => by cases e)

set_option maxHeartbeats 1000000 in
theorem RangeN_in (n : Nat) (hn : 6 ≤ n) (w : World) (t : Nat) (nv fv : Value) (Z : List Nz) (fl : List Nat) (root : Nat) (many : Int) (T : Pairs) (frm upr : ByteArray) (h : TreeR w t nv fv Z fl root many) (hg : GoodT (ndsZ Z) fl root T) (hZl : Z.length ≤ 1099511627) (hs : Sorted T) (hT : T.length ≤ 10000000) (hpos : 0 < T.length) :
    CallsIn Fence.wide n Try.prog 69 #[.pointer (some ⟨t, 0, none⟩), .string frm, .string upr, .int .i64 T.length] w fun e w' =>
      ∃ v, e = .returned v ∧ SlF w' 127 2 pairC v (rangeT T frm upr) ∧ Below w.heap.size w w' ∧ (∀ b, v.ownBlock = some b → w.heap.size ≤ b) := by
  have h1 : 1 ≤ n := by omega
  have H := Lib.hid h; clear h
  have hTz : ¬ (T.length : Int) < 1 := by omega
  refine callsIn_of_wp_marks Try.func69 rfl trivial ?_ rfl
  simp only [Try.ntmps69, List.size_toArray, List.length_cons, List.length_nil, Nat.reduceAdd, Nat.reduceSub, Array.replicate_succ, Array.replicate_zero, List.push_toArray, List.append_toArray, List.nil_append, List.cons_append]
  gi_wp2_with (refine ⟨trivial, ?_⟩; gi_at_call 108; refine (callsIn_wide.2 (all_calls _ _ _)).mono ?_; rintro e w' ⟨rfl, rfl⟩)
  obtain ⟨W0, hW0⟩ : ∃ W0, (((((w.alloc (Obj.cells #[Value.string upr] 9)).alloc (Obj.cells #[Value.int IntKind.i64 (T.length : Int)] 3)).alloc (Obj.cells #[Value.slice none 0 0] 124)).alloc
      (Obj.cells #[Value.pointer (some { block := t, off := 0 })] 118)).alloc (Obj.cells #[Value.string frm] 9)) = W0 := ⟨_, rfl⟩
  have hsz : W0.heap.size = w.heap.size + 5 := by rw [← hW0]; simp
  have b0 : W0.heap[w.heap.size]? = some (.cells #[Value.string upr] 9 (0, 0)) := by rw [← hW0]; exact alloc_old (alloc_old (alloc_old (alloc_old (alloc_at _ _ _ rfl) _) _) _) _
  have b1 : W0.heap[w.heap.size + 1]? = some (.cells #[Value.int .i64 (T.length : Int)] 3 (0, 0)) := by rw [← hW0]; exact alloc_old (alloc_old (alloc_old (alloc_at _ _ _ (by simp)) _) _) _
  have b2 : W0.heap[w.heap.size + 1 + 1]? = some (.cells #[Value.slice none 0 0] 124 (0, 0)) := by rw [← hW0]; exact alloc_old (alloc_old (alloc_at _ _ _ (by simp)) _) _
  have b3 : W0.heap[w.heap.size + 1 + 1 + 1]? = some (.cells #[Value.pointer (some { block := t, off := 0 })] 118 (0, 0)) := by rw [← hW0]; exact alloc_old (alloc_at _ _ _ (by simp)) _
  have b4 : W0.heap[w.heap.size + 1 + 1 + 1 + 1]? = some (.cells #[Value.string frm] 9 (0, 0)) := by rw [← hW0]; exact alloc_at _ _ _ (by simp)
  have hF0 : Fr No w W0 := by rw [← hW0]; exact (((((Fr.refl No w).alloc _).alloc _).alloc _).alloc _).alloc _
  simp only [hW0]
  clear hW0
  have hTW : TreeR W0 t nv fv Z fl root many := H.out.fr0 hF0
  have htl := H.out.obj.lt
  obtain ⟨i0, hi0, hz0, hz1, hz2⟩ := info_parts info127'
  refine wpIn_rangeFunc_ownH rfl h1 (gf := 127) (lb := #[.pointer (some ⟨w.heap.size + 1 + 1 + 1, 0, none⟩), .pointer (some ⟨w.heap.size + 1 + 1 + 1 + 1, 0, none⟩)]) rfl trivial (enters_of Try.func127 (by kernel_rfl) rfl)
    (allN_stops (n - 1) t W0.heap.size (w.heap.size + 1 + 1) (w.heap.size + 1 + 1 + 1) (w.heap.size + 1 + 1 + 1 + 1) (by omega) nv fv Z fl root many T frm hg W0
      ⟨hTW, Nat.le_refl _, fun b hb => by have := H.out.lt b hb; omega, hZl⟩ (by simp [World.cell?, b3]) (by simp [World.cell?, b4]))
    KpR.trans (KpR.putObj (Nat.le_refl _)) (Below.refl _ _) (fun _ => rfl)
    (fun pre W => RgI w upr T.length W0.heap.size pre W ∧ Hid ((∀ x ∈ pre, ahead upr x = true) ∧ pre.length < T.length))
    (fun c pre W => match c with
      | .exit id => id = 0 ∧ ∃ out, RgI w upr T.length W0.heap.size out W ∧ Hid ((∃ x, pre = out ++ [x] ∧ (∀ y ∈ out, ahead upr y = true) ∧ ahead upr x = false) ∨ (out = pre ∧ (∀ y ∈ out, ahead upr y = true) ∧ out.length = T.length))
      | _ => False)
    (fun s W W' row hs hg hr => ⟨hs.1.own (by omega) hg hr, hs.2⟩)
    (fun c s W W' row hs hg hr => by
      cases c with
      | exit id => obtain ⟨h1, out, h2, h3⟩ := hs; exact ⟨h1, out, h2.own (by omega) hg hr, h3⟩
      | _ => exact hs.elim)
    ⟨⟨b0, b1, ⟨_, b2, SlF.nil _ _ _ _, by simp [Value.ownBlock]⟩, hF0.below0, Nat.le_refl _⟩, Lib.hid ⟨by simp, by simpa using hpos⟩⟩
    (fun x a' W => ∃ Bx, W0.heap.size ≤ Bx ∧ W.heap[Bx]? = some (.cells #[.string x.1, .int .i64 x.2] 127 (0, 0)) ∧ a' = ⟨#[.pointer (some ⟨t, 0, none⟩), .string frm, .string upr, .int .i64 T.length, undef, undef, .pointer (some ⟨w.heap.size, 0, none⟩), .pointer (some ⟨w.heap.size + 1, 0, none⟩), .slice none 0 0, .pointer (some ⟨w.heap.size + 1 + 1, 0, none⟩), .pointer (some ⟨Bx, 0, none⟩), .int .i64 T.length, .bool false, .pointer (some ⟨t, 0, none⟩), .string frm, .func (.func 127) #[] #[.pointer (some ⟨w.heap.size + 1 + 1 + 1, 0, none⟩), .pointer (some ⟨w.heap.size + 1 + 1 + 1 + 1, 0, none⟩)], .agg #[.string x.1, .int .i64 x.2], undef, undef, undef, undef, undef, undef, undef, undef, undef, undef, undef, undef, undef, undef, undef, undef, undef], []⟩)
    (fun x a' s W W' row hs hg hr => by
      obtain ⟨Bx, h1, h2, h3⟩ := hs
      exact ⟨Bx, h1, (hg.block Bx (heap_lt h2) fun e' => by obtain ⟨_, o, ho, hc⟩ := hr Bx e'.symm; rw [h2] at ho; cases ho; cases hc).trans h2, h3⟩)
    ?assign ?body ?done ?stop
  case assign =>
    rintro l pre x W K ⟨hI, hpre⟩ hK
    have hK' := Lib.hid hK
    clear hK
    dsimp only [pairEnc]
    gi_wp2
    exact hK'.out _ _ ((KeepsOthers.alloc _ _).from _) (KpR.of_fr ((Fr.refl No W).alloc _) hI.size fun _ s => s.elim) ⟨hI.fr ((Fr.refl _ _).alloc _), hpre⟩ ⟨W.heap.size, hI.size, heap_alloc_new _ _, rfl⟩
  case body =>
    rintro l pre x a' W hl ⟨r, hr⟩ ⟨hI, hpre⟩ ⟨Bx, hBx, bX, rfl⟩ hlt
    obtain ⟨v, c2, hv, hvn⟩ := hI.b2
    obtain ⟨va, vcap, rfl, _, _, _⟩ := hv.shape
    have x0 : W.cell? ⟨Bx, 0, none⟩ = some (.string x.1) := by simp [World.cell?, bX]
    have x1 : W.cell? ⟨Bx, 1, none⟩ = some (.int .i64 x.2) := by simp [World.cell?, bX]
    have y0 : W.cell? ⟨w.heap.size, 0, none⟩ = some (.string upr) := by simp [World.cell?, hI.b0]
    have y1 : W.cell? ⟨w.heap.size + 1, 0, none⟩ = some (.int .i64 T.length) := by simp [World.cell?, hI.b1]
    have y2 : W.cell? ⟨w.heap.size + 1 + 1, 0, none⟩ = some (.slice va pre.length vcap) := by simp [World.cell?, c2]
    have HP := hpre
    have hpl := hpre.out.2
    have hnew := cells_new W [.string x.1, .int .i64 x.2] 127 (0, 0)
    have hBl := heap_lt bX
    have hsl : w.heap.size + 1 + 1 < W.heap.size := heap_lt c2
    have HI := Lib.hid hI
    clear hI hpre
    by_cases hah : ahead upr x = true
    · have hcs : upr.toList.isEmpty = true ∨ (upr.toList.isEmpty = false ∧ Op.bytesLess x.1.toList upr.toList = true) := by
        unfold ahead klt at hah
        cases h0 : upr.toList.isEmpty
        · right; refine ⟨rfl, ?_⟩; simpa [h0] using hah
        · left; rfl
      have HAH := Lib.hid hah
      clear hah
      by_cases hlast : pre.length + 1 = T.length
      · have hd : ((pre.length : Int) + 1 == (T.length : Int)) = true := by simp; omega
        have HLAST := Lib.hid hlast
        clear hlast
        rcases hcs with he | ⟨he, hk⟩
        all_goals
          gi_wp2_with (gi_at_builtin; refine wpListIn_append_f rfl _ _ 124 rfl 127 i0 _ 2 24 Try.underlying124 hi0 hz0 hz1 hz2 rfl (by decide) (.slice va pre.length vcap) pre rfl (hv.alloc _) W.heap.size 1 x rfl (by simpa [pairC] using hnew) rfl (by intro u hu; simp [pairC] at hu; rcases hu with rfl | rfl <;> rfl) (by unfold maxLen; omega) (by omega) ?_)
          intro g o' cap w1 hs1 hg1 hb1 hlt1
          obtain ⟨e2, G1, G2, G3⟩ := RgI.grow HI.out (by omega) c2 hv hvn hs1 hg1 (by simpa using hb1)
          have z2 : w1.cell? ⟨w.heap.size + 1 + 1, 0, none⟩ = some (.slice va pre.length vcap) := by simp [World.cell?, e2]
          have zf : w1.frozen? ⟨w.heap.size + 1 + 1, 0, none⟩ = false := by simp [World.frozen?, e2]
          have HF : Fr (fun b => (Value.slice va pre.length vcap).ownBlock = some b) W w1 := (((Fr.refl _ W).alloc _).grown hg1 fun k hk => .inl hk)
          have z1 := HF.cell y1 (fun e => by have := hvn _ e; simp at this; omega)
          have HG := Lib.hid (And.intro G1 (And.intro G2 G3))
          clear hs1 hg1 hb1 G1 G2 G3 HF hnew e2
          gi_wp2
          have hall : ∀ y ∈ pre ++ [x], ahead upr y = true := by
            intro y hy
            rcases List.mem_append.1 hy with h | h
            · exact HP.out.1 y h
            · simp at h; subst h; exact HAH.out
          exact ⟨HG.out.2.1, rfl, _, HG.out.1, Lib.hid (.inr ⟨rfl, hall, by simpa using HLAST.out⟩)⟩
      · have hd : ((pre.length : Int) + 1 == (T.length : Int)) = false := by simp; omega
        rcases hcs with he | ⟨he, hk⟩
        all_goals
          gi_wp2_with (gi_at_builtin; refine wpListIn_append_f rfl _ _ 124 rfl 127 i0 _ 2 24 Try.underlying124 hi0 hz0 hz1 hz2 rfl (by decide) (.slice va pre.length vcap) pre rfl (hv.alloc _) W.heap.size 1 x rfl (by simpa [pairC] using hnew) rfl (by intro u hu; simp [pairC] at hu; rcases hu with rfl | rfl <;> rfl) (by unfold maxLen; omega) (by omega) ?_)
          intro g o' cap w1 hs1 hg1 hb1 hlt1
          obtain ⟨e2, G1, G2, G3⟩ := RgI.grow HI.out (by omega) c2 hv hvn hs1 hg1 (by simpa using hb1)
          have z2 : w1.cell? ⟨w.heap.size + 1 + 1, 0, none⟩ = some (.slice va pre.length vcap) := by simp [World.cell?, e2]
          have zf : w1.frozen? ⟨w.heap.size + 1 + 1, 0, none⟩ = false := by simp [World.frozen?, e2]
          have HF : Fr (fun b => (Value.slice va pre.length vcap).ownBlock = some b) W w1 := (((Fr.refl _ W).alloc _).grown hg1 fun k hk => .inl hk)
          have z1 := HF.cell y1 (fun e => by have := hvn _ e; simp at this; omega)
          have HG := Lib.hid (And.intro G1 (And.intro G2 G3))
          clear hs1 hg1 hb1 G1 G2 G3 HF hnew e2
          gi_wp2
          have hall : ∀ y ∈ pre ++ [x], ahead upr y = true := by
            intro y hy
            rcases List.mem_append.1 hy with h | h
            · exact HP.out.1 y h
            · simp at h; subst h; exact HAH.out
          exact ⟨HG.out.2.1, HG.out.2.2, HG.out.1, Lib.hid ⟨hall, by simp; omega⟩⟩
    · simp only [Bool.not_eq_true] at hah
      have HAH := Lib.hid hah
      have hcs : upr.toList.isEmpty = false ∧ Op.bytesLess x.1.toList upr.toList = false := by
        unfold ahead klt at hah
        simpa using hah
      obtain ⟨he, hk⟩ := hcs
      clear hah
      gi_wp2
      exact ⟨KeepsFrom.refl _ _, rfl, pre, HI.out, Lib.hid (.inl ⟨x, rfl, HP.out.1, HAH.out⟩)⟩
  case done =>
    rintro D xs W hD rfl ⟨hI, hpre⟩ hK
    obtain ⟨v, c2, hv, hvn⟩ := hI.b2
    have y2 : W.cell? ⟨w.heap.size + 1 + 1, 0, none⟩ = some v := by simp [World.cell?, c2]
    have hr : Hid (rangeT T frm upr = T.drop (spotOf T frm)) := Lib.hid (by rw [rangeT_eq T hs]; exact takeWhile_all hpre.out.1)
    gi_wp2
    refine ⟨by simp, .inl ⟨_, _, rfl, run_takeDeferred hK, ?_⟩⟩
    have hg := grownBy_putObj' W D (.deferred none)
    refine ⟨_, results_tmp rfl _ _ _, v, rfl, ?_, hI.below.grown hg hI.below.size (fun k e => by cases e; omega), fun b hb => by have := hvn b hb; omega⟩
    rw [hr.out]
    refine Sl.keep hv fun k hk => hg.block k (hv.lt k hk) fun e => ?_
    cases e
    rcases hv.2 with ⟨rfl, _⟩ | ⟨g', o', cap', cur, rfl, hgg, _⟩
    · simp [Value.ownBlock] at hk
    · obtain rfl : g' = D := by simpa [Value.ownBlock] using hk
      rw [hgg] at hK; cases hK
  case stop =>
    rintro D c pre W hD hSp hIx hK
    cases c with
    | exit id =>
      obtain ⟨rfl, out, hI, HO⟩ := hIx
      obtain ⟨v, c2, hv, hvn⟩ := hI.b2
      have y2 : W.cell? ⟨w.heap.size + 1 + 1, 0, none⟩ = some v := by simp [World.cell?, c2]
      have hr : Hid (rangeT T frm upr = out) := Lib.hid (by
        rw [rangeT_eq T hs]
        rcases HO.out with ⟨x, rfl, h1, h2⟩ | ⟨rfl, h1, h2⟩
        · obtain ⟨rest, hrest⟩ := hSp
          exact takeWhile_stop (r := rest) (by rw [← hrest]; simp) h1 h2
        · obtain ⟨rest, hrest⟩ := hSp
          have hl := congrArg List.length hrest
          simp at hl
          obtain rfl : rest = [] := List.eq_nil_of_length_eq_zero (by omega)
          rw [← hrest, List.append_nil]
          exact takeWhile_all h1)
      gi_wp2
      refine ⟨by simp, .inl ⟨_, _, rfl, run_takeDeferred hK, ?_⟩⟩
      have hg := grownBy_putObj' W D (.deferred none)
      refine ⟨_, results_tmp rfl _ _ _, v, rfl, ?_, hI.below.grown hg hI.below.size (fun k e => by cases e; omega), fun b hb => by have := hvn b hb; omega⟩
      rw [hr.out]
      refine Sl.keep hv fun k hk => hg.block k (hv.lt k hk) fun e => ?_
      cases e
      rcases hv.2 with ⟨rfl, _⟩ | ⟨g', o', cap', cur, rfl, hgg, _⟩
      · simp [Value.ownBlock] at hk
      · obtain rfl : g' = D := by simpa [Value.ownBlock] using hk
        rw [hgg] at hK; cases hK
    | _ => exact hIx.elim

/-- A tree with the pairs T, of at most N keys ever. -/
def TreeAtN (w : World) (t : Nat) (T : Pairs) (F : Nat → Prop) : Prop :=
  ∃ A fl root, TreeZ w t A fl root T.length F ∧ GoodT A fl root T ∧ A.length ≤ 1000002 ∧ T.length ≤ 1000000
theorem treeOkN : TreeOk TreeAtN 1000000 where
  lt h := by obtain ⟨A, fl, root, h, _⟩ := h; exact h.lt
  fr h hf hn := by obtain ⟨A, fl, root, h, h2⟩ := h; exact ⟨A, fl, root, h.fr hf hn, h2⟩
  root h := by obtain ⟨A, fl, root, ⟨nv, fv, Z, _, _, hF⟩, h2⟩ := h; exact (hF _).2 (.inl rfl)
  sorted h := by obtain ⟨A, fl, root, _, ⟨D, hD⟩, _⟩ := h; exact hD.sorted
  new w := by
    refine (NewN_calls w).mono ?_
    rintro e w' ⟨t, rfl, F, h1, h2, h3⟩
    exact ⟨t, rfl, F, ⟨_, _, _, h1, good_new, by simp, by simp⟩, h2, h3⟩
  len h := by obtain ⟨A, fl, root, h, _⟩ := h; exact LenN_calls _ _ _ _ _ _ _ h
  get key h := by obtain ⟨A, fl, root, h, h2, h3, _⟩ := h; exact GetN_calls _ _ _ _ _ _ _ _ key h h2 (by omega)
  set {w t T F} key m h hl := by
    obtain ⟨A, fl, root, h, h2, h3, _⟩ := h
    obtain ⟨g, a1, a2, a3, a4, a5⟩ := setR_ok h2 key m 1000000 (by omega) hl
    refine (SetN_calls w t A fl root T.length F T key m h h2 1000000 (Nat.le_refl _) (by omega) hl ⟨by omega, by omega⟩ g a1 a4).mono ?_
    rintro e w' ⟨he, F', b1, b2, b3⟩
    have hlen : (insT T key m).length = T.length + if (getT T key).2 then 1 - 1 else 1 := by
      obtain ⟨D, hD⟩ := h2
      exact insT_len key m T hD.sorted
    refine ⟨he, F', ⟨_, _, _, ?_, a3, by omega, by rw [hlen]; split <;> omega⟩, b2, b3⟩
    have e2 : ((insT T key m).length : Int) = (T.length : Int) + if (setA g (growA A fl root).1 (growA A fl root).2.1 (growA A fl root).2.2 key m).2.2 then 1 else 0 := by
      rw [a2, hlen]
      cases (getT T key).2 <;> simp
    rw [e2]
    exact b1
  range {w t T F} frm upr h := by
    obtain ⟨A, fl, root, ⟨nv, fv, Z, h, rfl, hF⟩, h2, h3, h4⟩ := h
    rcases Nat.eq_zero_or_pos T.length with h0 | hp
    · obtain rfl := List.eq_nil_of_length_eq_zero h0
      refine (Range1_nil w t frm upr).mono ?_
      rintro e w' ⟨rfl, hf⟩
      exact ⟨_, rfl, SlF.nil _ _ _ _, hf, by simp [Value.ownBlock]⟩
    · have hsT : Sorted T := by obtain ⟨D, hD⟩ := h2; exact hD.sorted
      rw [ndsZ_len] at h3
      refine (callsIn_wide.1 (RangeN_in 6 (by omega) w t nv fv Z fl root T.length T frm upr h h2 (by omega) hsT (by omega) hp)).mono ?_
      rintro e w' ⟨v, rfl, h1, h2, h3⟩
      exact ⟨v, rfl, h1, Fr.of_below h2, h3⟩
end Go.Proofs.Ythljnnjpmdgkoaa
