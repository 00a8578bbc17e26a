/- The store's Compact, where no key is forgotten: it answers 0, and nothing but the store's own blocks is written. The conditions: CompOk. -/
import Derived.Test.YthljnnjpmdgkoaaGone
import Derived.Test.YthljnnjpmdgkoaaDelEv2
import Derived.Test.YthljnnjpmdgkoaaStore2
import Derived.Test.YthljnnjpmdgkoaaBetween
namespace Go.Proofs.Ythljnnjpmdgkoaa
open Go Go.Proofs Go.RowKit
set_option maxRecDepth 100000

/-- What Compact asks of a store, where no key is forgotten. -/
structure CompOk (S : St) (rev : Int) : Prop where
  r1 : rev ≤ S.rev
  r2 : S.mark < rev
  evs : 0 < S.events.length
  nodup : (S.T.map (·.2)).Nodup
  hist : ∀ p ∈ S.T, ∀ H, S.past p.2 = some H → 0 < H.gens.length ∧ (∀ x ∈ H.gens, endB rev x = false) ∧ Fits (H.gens.map (compG rev)) ∧ ∃ l : List Int, l.length ≤ 1099511627 ∧ ∀ r, H.kvs r ≠ none → r ∈ l

theorem klt_empty (a : ByteArray) : klt a ⟨#[]⟩ = false := by
  rw [Bool.eq_false_iff]
  intro h
  have := klt_iff.1 h
  exact absurd this (by simp)
theorem rangeT_all (T : Pairs) : rangeT T ⟨#[]⟩ ⟨#[]⟩ = T := by
  unfold rangeT
  rw [List.filter_eq_self]
  intro q _
  rw [klt_empty, show (⟨#[]⟩ : ByteArray).toList.isEmpty = true from by rw [Lib.toList_data]; rfl]
  rfl

set_option maxHeartbeats 8000000 in
theorem Compact_calls {TA : TreeRel} {N : Nat} (hT : TreeOk TA N) {n : Nat} (hn : n ≤ 1099511627) (w : World) (s : Nat) (S : St) (F : Nat → Prop) (hS : StoreAt TA w s S F) (hok : StOk n S) (hN : S.T.length ≤ 1099511627) (rev : Int) (hc : CompOk S rev) :
    Calls Try.prog 44 #[.pointer (some ⟨s, 0, none⟩), .int .i64 rev] w fun e w' => e = .returned (.int .i64 0) ∧ Fr F w w' := by
  obtain ⟨t, p, ev, hp, FT, FH, a, hF⟩ := hS
  have c0 := a.obj.cell 0 rfl
  have c1 := a.obj.cell 1 rfl
  have c3 := a.obj.cell 3 rfl
  have c4 := a.obj.cell 4 rfl
  have ls := a.obj.lt
  have r1 := hc.r1
  have r2 := hc.r2
  have hev := hok.ev
  have hmf : ∀ (fn : Fn) (first cap : Array Value) (w : World), (Instr.makeFunc fn first cap).run Try.prog w = .ok (.func fn first cap) w := fun _ _ _ _ => rfl
  have HA := Lib.hid a
  have HFF := Lib.hid hF
  have HC := Lib.hid hc
  have HOK := Lib.hid hok
  clear a hF hc hok
  go_enter Try.func44, Try.ntmps44
  go_upto_region 3 with fail
  have hbx := alloc_at w (Obj.cells #[.int .i64 rev] 3) _ rfl
  have hf0 : Fr No w (w.alloc (Obj.cells #[.int .i64 rev] 3)) := (Fr.refl No w).alloc _
  generalize w.alloc (Obj.cells #[.int .i64 rev] 3) = W0 at hbx hf0 ⊢
  have b0 : W0.cell? ⟨w.heap.size, 0, none⟩ = some (.int .i64 rev) := by simp [World.cell?, hbx]
  have d3 := hf0.cell0 c3
  have d4 := hf0.cell0 c4
  have lb := heap_lt hbx
  have ls0 : s < W0.heap.size := Nat.lt_of_lt_of_le ls hf0.size
  go_quiet (fail)
  have hq := Fr.drewN No W0 nq
  have b1 := hq.cell0 b0
  have e4 := hq.cell0 d4
  have lb1 : w.heap.size < (W0.drewN nq).heap.size := lb
  have ls1 : s < (W0.drewN nq).heap.size := ls0
  have hf1 : Fr No w (W0.drewN nq) := hf0.trans0 hq
  have hbx1 := hq.heap hbx id
  generalize W0.drewN nq = W1 at *
  clear b0 d3 d4 lb ls0 hq hf0 hbx
  go_upto_region 5 with fail
  go_quiet (fail)
  have hq := Fr.drewN No W1 nq
  have hf2 : Fr No w (W1.drewN nq) := hf1.trans0 hq
  have hbx2 := hq.heap hbx1 id
  generalize W1.drewN nq = W2 at hf2 hbx2 hq ⊢
  have ho2 : Has W2 s [.pointer (some ⟨t, 0, none⟩), .map (some p), .int .i64 S.next, .int .i64 S.rev, .int .i64 S.mark, ev] := HA.out.obj.fr hf2 id
  have hlt0 := hf2.size
  have f4 := ho2.free 4
  have d4 := ho2.cell 4 rfl
  have ls2 := ho2.lt
  have b2 : W2.cell? ⟨w.heap.size, 0, none⟩ = some (.int .i64 rev) := by simp [World.cell?, hbx2]
  have lb2 := heap_lt hbx2
  clear b1 e4 lb1 ls1 hf1 hbx1 hq
  go_upto_region 8 with fail
  have ho3 := ho2.set 4 (.int .i64 rev)
  have hfs3 : Fr (fun b => b = s) W2 (W2.setCell ⟨s, 4, none⟩ (.int .i64 rev)) := (Fr.refl _ W2).setAt 4 _
  have hbx3 := hfs3.heap hbx2 (fun e => by have e' : w.heap.size = s := e; omega)
  have hf3 : Fr (fun b => b = s) w (W2.setCell ⟨s, 4, none⟩ (.int .i64 rev)) := (hf2.mono fun _ _ h => h.elim).trans hfs3 fun _ _ h => h
  generalize W2.setCell ⟨s, 4, none⟩ (.int .i64 rev) = W3 at ho3 hbx3 hf3 ⊢
  have hevs : SlF W3 73 13 evC ev S.events := HA.out.events.fr hf3 fun b hb e => HA.out.ds.2.1 (by have e' : b = s := e; rw [← e']; exact hb)
  have c5 := ho3.cell 5 rfl
  have f5 := ho3.free 5
  have ls3 := ho3.lt
  have hsz3 := hf3.size
  obtain ⟨ea, ecap, rfl, he1, he2, he3⟩ := hevs.shape
  have HEVS := Lib.hid hevs
  have HO3 := Lib.hid ho3
  have HB3 := Lib.hid hbx3
  have HF3 := Lib.hid hf3
  clear f4 d4 ls2 b2 lb2 ho2 hfs3 hbx2 hf2 hevs ho3 hbx3 hf3
  go_upto_region 9 with (first
    | (go_at_call 82; refine (cloneEv_calls W3 _ S.events HEVS.out HC.out.evs (by omega)).mono ?_; rintro e w4 ⟨cg, co, ccap, rfl, hcl, hf4, hcg⟩)
    | (go_at_call 81
       have hbx4 := hf4.heap HB3.out id
       have hlb4 := heap_lt HB3.out
       refine (delEv_calls w4 _ S.events w.heap.size rev (by simp [World.cell?, hbx4]) hcl (fun e => by simp [Value.ownBlock] at e; omega) (by omega)).mono ?_
       rintro e w5 ⟨dv, rfl, hdv, hf5, hdo⟩
       obtain ⟨da, dcap, rfl, _, _, _⟩ := hdv.shape
       have hf35 : Fr No W3 w5 := hf4.trans hf5 fun b hb h => by simp [Value.ownBlock] at h; omega
       have f55 := hf35.free0 c5 f5
       have c55 := hf35.cell0 c5
       have ls5 : s < w5.heap.size := Nat.lt_of_lt_of_le ls3 hf35.size))
  have ho6 : Has (w5.setCell ⟨s, 5, none⟩ (.slice da (S.events.filter (keptB rev)).length dcap)) s [.pointer (some ⟨t, 0, none⟩), .map (some p), .int .i64 S.next, .int .i64 S.rev, .int .i64 rev, .slice da (S.events.filter (keptB rev)).length dcap] := (HO3.out.fr hf35 id).set 5 _
  have hfs6 : Fr (fun b => b = s) w5 (w5.setCell ⟨s, 5, none⟩ (.slice da (S.events.filter (keptB rev)).length dcap)) := (Fr.refl _ w5).setAt 5 _
  have hf6 : Fr (fun b => b = s) w (w5.setCell ⟨s, 5, none⟩ (.slice da (S.events.filter (keptB rev)).length dcap)) := (HF3.out.trans0 hf35).trans hfs6 fun _ _ h => h
  have hbx6 := hfs6.heap (hf35.heap HB3.out id) (fun e => by have e' : w.heap.size = s := e; omega)
  generalize w5.setCell ⟨s, 5, none⟩ (.slice da (S.events.filter (keptB rev)).length dcap) = W6 at ho6 hf6 hbx6 ⊢
  have htree : TA W6 t S.T FT := hT.fr HA.out.tree hf6 fun b hb e => HA.out.ds.1 (by have e' : b = s := e; rw [← e']; exact hb)
  have hmap : MapAt W6 p fun i => (hp i).map fun h => .pointer (some ⟨h, 0, none⟩) := HA.out.map.fr hf6 fun e => by
    have e' : p = s := e
    exact HA.out.map.apart HA.out.obj e'
  have hhist : ∀ i H, S.past i = some H → ∃ h, hp i = some h ∧ HistAt W6 h H (FH i) := fun i H hi => by
    obtain ⟨h, h1, h2⟩ := HA.out.hist i H hi
    exact ⟨h, h1, h2.fr hf6 fun b hb e => HA.out.ds.2.2 i (by have e' : b = s := e; rw [← e']; exact hb)⟩
  have c06 := ho6.cell 0 rfl
  have ls6 := ho6.lt
  have hrng := fun W (h : Fr No W6 W) => hT.range (w := W) (t := t) (T := S.T) (F := FT) ⟨#[]⟩ ⟨#[]⟩ (hT.fr htree h fun _ _ s => s)
  simp only [rangeT_all] at hrng
  have hlen := fun W (h : Fr No W6 W) => hT.len (w := W) (t := t) (T := S.T) (F := FT) (hT.fr htree h fun _ _ s => s)
  have HRNG := Lib.hid hrng
  have HLEN := Lib.hid hlen
  have HO6 := Lib.hid ho6
  have HF6 := Lib.hid hf6
  have HB6 := Lib.hid hbx6
  have HM6 := Lib.hid hmap
  have HH6 := Lib.hid hhist
  clear hrng hlen ho6 hf6 hbx6 hmap hhist htree hfs6 hf35 f55 c55 ls5 hcl hf4 hdv hf5 hdo
  go_region_held3 (fun W => W.cell? ⟨s, 0, none⟩ = some (.pointer (some ⟨t, 0, none⟩)))
    (first | assumption | exact hf7.cell0 c06)
    (first
      | (go_at_call 70; refine (HLEN.out _ (by (repeat (first | with_reducible exact Fr.refl _ _ | with_reducible refine Fr.drew ?_)); done)).mono ?_; rintro e w' ⟨rfl, rfl⟩)
      | (go_at_call 69; refine (HRNG.out _ (by (repeat (first | with_reducible exact Fr.refl _ _ | with_reducible refine Fr.drew ?_)); done)).mono ?_; rintro e w7 ⟨pv, rfl, hpv, hf7, hpn⟩; obtain ⟨pa, pcap, rfl, hp1, hp2, hp3⟩ := hpv.shape))
  have hfF6 : Fr F w W6 := HF6.out.mono fun b _ e => by
    have e' : b = s := e
    rw [e']
    exact (HFF.out s).2 (.inl rfl)
  have hf67 : Fr No W6 w7 := (by first | exact hf7 | exact (Fr.refl No W6).drew.trans0 hf7)
  have hFlt : ∀ b, F b → b < w.heap.size := fun b hb => HA.out.lt hT b ((HFF.out b).1 hb)
  have hw6 : w.heap.size ≤ W6.heap.size := hfF6.size
  have hnd : ∀ (i j : Nat) (q r : ByteArray × Int), S.T[i]? = some q → S.T[j]? = some r → q.2 = r.2 → i = j := fun i j q r hi hj e => by
    have hn := HC.out.nodup
    have hil := (List.getElem?_eq_some_iff.1 hi).1
    have hjl := (List.getElem?_eq_some_iff.1 hj).1
    have h1 : (S.T.map (·.2))[i]? = (S.T.map (·.2))[j]? := by rw [List.getElem?_map, List.getElem?_map, hi, hj]; simp [e]
    exact (List.getElem?_inj (by simpa using hil) hn).1 h1
  have hpn6 : ∀ b, (Value.slice pa S.T.length pcap).ownBlock = some b → w.heap.size ≤ b := fun b hb => by have := hpn b hb; have h' : W6.heap.size ≤ b := this; omega
  have HPV := Lib.hid hpv
  have HPN := Lib.hid hpn6
  have HFL := Lib.hid hFlt
  have HND := Lib.hid hnd
  have HP3 := Lib.hid hp3
  have hinit : Fr F w w7 := hfF6.trans0 hf67
  have HINIT := Lib.hid hinit
  have h1 := HO6.out.fr hf67 id
  have h2 := HM6.out.fr hf67 id
  have h3 := HB6.out |> fun h => hf67.heap h id
  have h4 : ∀ i H, S.past i = some H → ∃ h, hp i = some h ∧ HistAt w7 h H (FH i) := fun i H hi => by
    obtain ⟨h, e1, e2⟩ := HH6.out i H hi
    exact ⟨h, e1, e2.fr hf67 fun _ _ h => h⟩
  have HI1 := Lib.hid h1
  have HI2 := Lib.hid h2
  have HI3 := Lib.hid h3
  have HI4 := Lib.hid h4
  clear hfF6 hf67 hFlt hw6 hnd hpn6 hpv hp3 hinit h1 h2 h3 h4 hpn hf7 c06 HRNG HLEN HO6 HF6 HB6 HM6 HH6 HEVS HO3 HB3 HF3
  go_wp2
  go_loopg [52] S.T.length (fun gg s52 wr => ∃ i : Nat, s52 = .int .i64 i ∧ i + gg = S.T.length ∧ Hid (Fr F w wr) ∧ Hid (∀ (k : Nat) q, S.T[k]? = some q → i ≤ k → ∀ H, S.past q.2 = some H → ∃ h, hp q.2 = some h ∧ HistAt wr h H (FH q.2)) ∧
    Hid (Has wr s [.pointer (some ⟨t, 0, none⟩), .map (some p), .int .i64 S.next, .int .i64 S.rev, .int .i64 rev, .slice da (S.events.filter (keptB rev)).length dcap]) ∧ Hid (MapAt wr p fun i => (hp i).map fun h => .pointer (some ⟨h, 0, none⟩)) ∧
    Hid (wr.heap[w.heap.size]? = some (.cells #[.int .i64 rev] 3 (0, 0))) ∧ Hid (SlF wr 127 2 pairC (.slice pa S.T.length pcap) S.T))
  case atStart => exact ⟨0, rfl, by simp, HINIT, Lib.hid (fun k q _ _ H hH => HI4.out q.2 H hH), HI1, HI2, HI3, HPV⟩
  case round =>
    obtain ⟨i, rfl, hi, HFR, HHI, HO, HM, HBX, HSL⟩ := hrel
    cases gk with
    | zero =>
      have hil : ¬ (i : Int) < (S.T.length : Int) := by omega
      go_wp2
      go_ret
      exact ⟨rfl, HFR.out⟩
    | succ gg =>
      have hil : (i : Int) < (S.T.length : Int) := by omega
      obtain ⟨gb, go, rfl⟩ := HP3.out (by omega)
      obtain ⟨⟨key, id⟩, hx⟩ : ∃ q, S.T[i]? = some q := ⟨_, List.getElem?_eq_getElem (by omega)⟩
      have x0 := HSL.out.cell0 pairC_length i hx rfl
      have x1 := HSL.out.cell pairC_length i 1 hx rfl
      obtain ⟨H, hH⟩ := HOK.out.id _ (List.mem_of_getElem? hx)
      dsimp only at hH
      obtain ⟨hg0, hge, hgf, hgl⟩ := HC.out.hist _ (List.mem_of_getElem? hx) H hH
      obtain ⟨h, hph, hhist⟩ := HHI.out i _ hx (Nat.le_refl _) H hH
      dsimp only at hph hhist
      have hids := HOK.out.ids _ _ hH
      have hnx := HOK.out.next
      have hwf : (Lit.int .i64 id).wf = true := wf64 (by omega) (by omega)
      have hHok := (HOK.out.hist _ _ hH).1
      obtain ⟨g, m, FK, b, hFH⟩ := hhist
      have hplk := MapAt.look (P := Try.prog) (t := 119) HM.out Try.underlying119 Try.underlying3 hwf (zero142 _)
      have hpl : ((hp id).map fun h => Value.pointer (some ⟨h, 0, none⟩)).getD (.pointer none) = .pointer (some ⟨h, 0, none⟩) := by rw [hph]; rfl
      have c1 := HO.out.cell 1 rfl
      have h0 := b.obj.cell 0 rfl
      have h1 := b.obj.cell 1 rfl
      have hbx0 : wr.cell? ⟨w.heap.size, 0, none⟩ = some (.int .i64 rev) := by simp [World.cell?, HBX.out]
      have lsr := HO.out.lt
      have lhr := b.obj.lt
      have lbr := heap_lt HBX.out
      have hSW : ∀ W, Fr No wr W → W.cell? ⟨s, 1, none⟩ = some (.map (some p)) ∧ (Instr.lookup 119 (.map (some p)) (.int .i64 id) false).run Try.prog W = .ok (.pointer (some ⟨h, 0, none⟩)) W ∧ W.cell? ⟨h, 0, none⟩ = some (.pointer (some ⟨g, 0, none⟩)) ∧ W.cell? ⟨w.heap.size, 0, none⟩ = some (.int .i64 rev) := by
        intro W hW
        refine ⟨hW.cell0 c1, ?_, hW.cell0 h0, hW.cell0 hbx0⟩
        have := MapAt.look (P := Try.prog) (t := 119) (HM.out.fr hW fun h => h) Try.underlying119 Try.underlying3 hwf (zero142 _)
        rw [hpl] at this
        exact this
      have hdec : decide (0 < H.gens.length) = true := by simpa using hg0
      have hcp := fun W (hW : Fr No wr W) => gensCompact_calls W g H.gens H.last rev FK (b.key.fr hW fun _ _ h => h) (hHok.fits hn) hge
      rw [hdec] at hcp
      have hgb := fun W (hh : HistAt W h { H with gens := H.gens.map (compG rev) } (FH id)) => goneBy_calls W h { H with gens := H.gens.map (compG rev) } rev (FH id) hh hgf hgl
      have HSW := Lib.hid hSW
      have HCP := Lib.hid hcp
      have HGB := Lib.hid hgb
      have HB := Lib.hid b
      have HFH := Lib.hid hFH
      have HX := Lib.hid hx
      have HHH := Lib.hid hH
      clear hplk hpl hSW hcp hgb b hFH hx hdec hge hgf hgl hHok hH hbx0 h0 c1 hids hnx
      go_upto_region 12 with fail
      have hkb := alloc_at wr (Obj.cells #[.string key, .int .i64 id] 127) _ rfl
      have hfa : Fr No wr (wr.alloc (Obj.cells #[.string key, .int .i64 id] 127)) := (Fr.refl No wr).alloc _
      generalize wr.alloc (Obj.cells #[.string key, .int .i64 id] 127) = W1 at hkb hfa ⊢
      have k1 : W1.cell? ⟨wr.heap.size, 1, none⟩ = some (.int .i64 id) := by simp [World.cell?, hkb]
      have lk := heap_lt hkb
      have ls1 : s < W1.heap.size := Nat.lt_of_lt_of_le lsr hfa.size
      have lh1 : h < W1.heap.size := Nat.lt_of_lt_of_le lhr hfa.size
      have lb1 : w.heap.size < W1.heap.size := Nat.lt_of_lt_of_le lbr hfa.size
      obtain ⟨q1, q2, q3, q4⟩ := HSW.out W1 hfa
      have q2' : (Instr.lookup 119 (.map (some p)) (.int .i64 id) false).run Try.prog W1.drew = .ok (.pointer (some ⟨h, 0, none⟩)) W1.drew := (HSW.out W1.drew hfa.drew).2.1
      go_region_held3 (fun W => W.cell? ⟨s, 1, none⟩ = some (.map (some p)) ∧ W.cell? ⟨wr.heap.size, 1, none⟩ = some (.int .i64 id) ∧ (Instr.lookup 119 (.map (some p)) (.int .i64 id) false).run Try.prog W = .ok (.pointer (some ⟨h, 0, none⟩)) W)
        (first | exact ⟨q1, k1, q2⟩ | exact ⟨q1, k1, q2'⟩)
        (fail)
      have hfd : Fr No wr W1.drew := hfa.drew
      have ls2 : s < W1.drew.heap.size := ls1
      have lh2 : h < W1.drew.heap.size := lh1
      have lb2 : w.heap.size < W1.drew.heap.size := lb1
      have lk2 : wr.heap.size < W1.drew.heap.size := lk
      generalize W1.drew = W2 at hfd ls2 lh2 lb2 lk2 ⊢
      have y0 := HB.out.obj.fr hfd (fun h => h) |>.cell 0 rfl
      have y1 := (HSW.out W2 hfd).2.2.2
      clear q1 q2 q3 q4 q2' k1 hkb hfa lk ls1 lh1 lb1
      go_upto_region 13 with fail
      have hkn : ∀ b, FK b → F b := fun b hb => (HFF.out b).2 (.inr (.inr (.inr (.inr ⟨_, (HFH.out b).2 (.inr (.inr hb))⟩))))
      have nbx : ¬ FK w.heap.size := fun hb => by have := HFL.out _ (hkn _ hb); omega
      have nh : ¬ FK h := HB.out.d1
      have HKN := Lib.hid hkn
      have hfd2 := hfd.drew
      have HFD := Lib.hid hfd
      have HFD2 := Lib.hid hfd2
      clear hkn hfd hfd2
      go_region_held3 (fun W => W.cell? ⟨h, 0, none⟩ = some (.pointer (some ⟨g, 0, none⟩)) ∧ W.cell? ⟨w.heap.size, 0, none⟩ = some (.int .i64 rev))
        (first | exact ⟨y0, y1⟩ | exact ⟨hf8.cell y0 nh, hf8.cell y1 nbx⟩)
        (first | (go_at_call 85; refine (HCP.out _ (by first | with_reducible exact HFD.out | with_reducible exact HFD2.out)).mono ?_; rintro e w8 ⟨rfl, hk8, hf8⟩))
      have hf18 : Fr FK wr w8 := (HFD2.out.mono fun _ _ h => h.elim).trans hf8 fun _ _ h => h
      have hh8 : HistAt w8 h { H with gens := H.gens.map (compG rev) } (FH id) := ⟨g, m, FK, ⟨HB.out.obj.fr hf18 HB.out.d1, hk8, HB.out.map.fr hf18 HB.out.d2, HB.out.d1, HB.out.d2⟩, HFH.out⟩
      have HH8 := Lib.hid hh8
      have HF18 := Lib.hid hf18
      have lh8 : h < w8.heap.size := Nat.lt_of_lt_of_le lhr hf18.size
      have lb8 : w.heap.size < w8.heap.size := Nat.lt_of_lt_of_le lbr hf18.size
      have y18 := hf8.cell y1 nbx
      clear hf18 hh8 hk8 hf8 y0 y1 ls2 lh2 lb2 lk2
      go_wp2_with (go_at_call 87; refine (HGB.out w8 HH8.out).mono ?_; rintro e w9 ⟨dv, out, rfl, hdv, hf9, hdo, hdg⟩; obtain ⟨oa, ocap, rfl, ho1, ho2, ho3⟩ := hdv.shape)
      have hf19 : Fr FK wr w9 := HF18.out.trans0 hf9
      have hm9 : MapAt w9 m fun r => (H.kvs r).map kvV := HB.out.map.fr hf19 HB.out.d2
      have hwfs : ∀ c ∈ out, (Lit.int .i64 c).wf = true := fun c hc => by
        have h1 := (hdg c hc).1
        obtain ⟨es, clock, e1, e2, e3, e4⟩ := hm9
        cases hkv : H.kvs c with
        | none => exact absurd hkv h1
        | some x =>
          obtain ⟨en, he, hk, _⟩ := e4 c (kvV x) (by simp [hkv])
          obtain ⟨n', hn', hw', _⟩ := e3 en he
          rw [hk] at hn'
          cases hn'
          exact hw'
      have HF19 := Lib.hid hf19
      have HM9 := Lib.hid hm9
      have HDV := Lib.hid hdv
      have HDO : Hid (∀ b, (Value.slice oa out.length ocap).ownBlock = some b → w8.heap.size ≤ b) := Lib.hid hdo
      have HWF := Lib.hid hwfs
      have HO3 := Lib.hid ho3
      clear hf19 hm9 hdv hdo hwfs ho3 hdg hf9
      go_loopg [87] out.length (fun g2 s87 wr2 => ∃ k : Nat, s87 = .int .i64 k ∧ k + g2 = out.length ∧ Hid (Fr (fun b => b = m) w9 wr2) ∧ Hid (∃ f', MapAt wr2 m f'))
      case atStart => exact ⟨0, rfl, by simp, Lib.hid (Fr.refl _ w9), Lib.hid ⟨_, HM9.out⟩⟩
      case round =>
        obtain ⟨k, rfl, hk, HF2, HM2⟩ := hrel
        have hFm : FH id m := (HFH.out m).2 (.inr (.inl rfl))
        cases gk with
        | zero =>
          have hkl : ¬ (k : Int) < (out.length : Int) := by omega
          have hfin : Fr (FH id) _ wr := (HF19.out.mono fun b _ h => (HFH.out b).2 (.inr (.inr h))).trans HF2.out fun b _ e => by
            have e' : b = m := e
            rw [e']; exact hFm
          have hFi : ∀ b, FH id b → F b := fun b hb => (HFF.out b).2 (.inr (.inr (.inr (.inr ⟨_, hb⟩))))
          have HFIN := Lib.hid hfin
          have HFI := Lib.hid hFi
          clear hfin hFi
          go_wp2
          go_roundg gg
          case rel =>
            refine ⟨i + 1, by go_num, by omega, Lib.hid (HFR.out.trans HFIN.out fun b _ h => HFI.out b h), Lib.hid (fun k q hq hik Hq hHq => ?_), Lib.hid (HO.out.fr HFIN.out fun h => HA.out.ds.2.2 _ h), Lib.hid (HM.out.fr HFIN.out fun h => HA.out.dp.2.2 _ h),
              Lib.hid (HFIN.out.heap HBX.out fun h => by have := HFL.out _ (HFI.out _ h); omega), Lib.hid (HSL.out.fr HFIN.out fun b hb h => by have := HFL.out _ (HFI.out _ h); have := HPN.out b hb; omega)⟩
            obtain ⟨h', e1, e2⟩ := HHI.out k q hq (by omega) Hq hHq
            refine ⟨h', e1, e2.fr HFIN.out fun b hb hb' => ?_⟩
            have := HA.out.dh _ _ b hb hb'
            have := HND.out k i q (key, id) hq HX.out this
            omega
          case measure => omega
        | succ g2 =>
          obtain ⟨ob, oo, rfl⟩ := HO3.out (by omega)
          obtain ⟨c, hc⟩ : ∃ c, out[k]? = some c := ⟨_, List.getElem?_eq_getElem (by omega)⟩
          have hkl : (k : Int) < (out.length : Int) := by omega
          have hkb : (k : Int) + 1 ≤ 9223372036854775807 := by
            have h1 := ho1
            have h2 := ho2
            unfold maxLen at h2
            omega
          have hmw9 : m < w8.heap.size := Nat.lt_of_lt_of_le HB.out.map.lt HF18.out.size
          have hdv2 := HDV.out.fr HF2.out fun b hb e => by
            have e' : b = m := e
            have := HDO.out b hb
            omega
          have z0 := hdv2.cell1 int1_length k hc rfl
          have zh : wr.cell? ⟨h, 1, none⟩ = some (.map (some m)) := ((HB.out.obj.fr HF19.out HB.out.d1).fr HF2.out fun e => HB.out.map.apart HB.out.obj (by have e' : h = m := e; exact e'.symm)).cell 1 rfl
          have lhr2 : h < wr.heap.size := by have := World.block_lt_of_cell? _ _ zh; exact this
          obtain ⟨f', hm2⟩ := HM2.out
          obtain ⟨w11, hrun, r1, r2, r3⟩ := hm2.drop (P := Try.prog) Try.underlying144 Try.underlying3 (HWF.out c (List.mem_of_getElem? hc)) 0
          have R1 := Lib.hid r1
          have R2 := Lib.hid r2
          clear hm2 r1 r2 hdv2 hc
          go_wp2
          go_roundg g2
          case rel => exact ⟨k + 1, by go_num, by omega, Lib.hid (HF2.out.trans R2.out fun _ _ h => h), Lib.hid ⟨_, R1.out⟩⟩
          case measure => omega
end Go.Proofs.Ythljnnjpmdgkoaa
