/- The statement LeaseRevokes's function returns true, whatever its arguments are. -/
import Derived.Test.YtlomeohcgjgpjaaObs
namespace Go.Proofs.Ytlomeohcgjgpjaa
open Go Go.Proofs Go.RowKit
set_option maxRecDepth 100000

theorem revoke_gone (R : List LV) (id : Int) : getR (revokeR R id) id = none := by
  unfold getR revokeR
  rw [List.find?_eq_none]
  intro x hx
  have := (List.mem_filter.1 hx).2
  simpa using this
theorem revoke_keys {n : Nat} {R : List LV} (h : ROk n R) {id : Int} {x : LV} (hx : getR R id = some x) {k : ByteArray} (hk : k ∈ x.keys) : ofR (revokeR R id) k = 0 := by
  obtain ⟨hm, hi⟩ := getR_mem hx
  refine ofR_none fun y hy hky => ?_
  obtain ⟨hy1, hy2⟩ := List.mem_filter.1 hy
  have h1 := h.of hm hk
  have h2 := h.of hy1 hky
  simp at hy2
  omega
def notId (id : Int) (p : LV × Value) : Bool := !(p.1.id == id)
theorem notId_map {P : List (LV × Value)} {R : List LV} (h : P.map (·.1) = R) (id : Int) : (P.filter (notId id)).map (·.1) = revokeR R id := by
  subst h
  unfold revokeR
  rw [List.filter_map]
  rfl
theorem filter_take {α : Type} (q : α → Bool) {l : List α} {i : Nat} {x : α} (hx : l[i]? = some x) : (l.take (i + 1)).filter q = if q x then (l.take i).filter q ++ [x] else (l.take i).filter q := by
  rw [List.take_add_one, hx, List.filter_append]
  cases hq : q x <;> simp [hq]
set_option maxHeartbeats 8000000 in
theorem leaseRevokes_walk (w : World) (v : Value) (l : List LOp) (hv : SlR w 4 opC v l) (hok : OpsOk l) (id : Int) (hwf : (Lit.int .i64 id).wf = true) :
    Calls Try.prog 5 #[v, .int .i64 id] w fun e w' => e = .returned (.bool true) ∧ Fr No w w' := by
  obtain ⟨va, vc, rfl, _, _, _⟩ := hv.shape
  have hdn := done_calls w _ l hv hok
  clear hv hok
  go_enter Try.func5, Try.ntmps5
  go_upto_region 2 with (go_at_call 10; (with_reducible refine hdn.mono ?_); rintro e w2 ⟨t, F, rfl, hL2, hw2, hF2⟩)
  have hL2' := hL2.ok
  generalize doneR l = R at *
  clear hdn
  have hli := list_at (by omega) hL2
  go_upto_region 3 with (go_at_call 11; (with_reducible refine hli.mono ?_); rintro e w3 ⟨a3, c3, rfl, H3⟩)
  obtain ⟨P3, hp3, hl3, hf3⟩ := H3.out
  have hFl := hL2.lt
  have hFw := hF2
  have hL3 := hL2.fr0 hf3
  have hFl3 := hL3.lt
  have hw3 := hw2.trans0 hf3
  clear hli hL2 H3 hf3 hw2 hF2
  cases hx : getR R id with
  | none =>
    have hg := Get_none (by omega) hL3 id hwf hx
    unfold lvV at hg
    go_upto_region 4 with (go_at_call 16; (with_reducible refine hg.mono ?_); rintro e w4 ⟨rfl, hf4⟩; dsimp only)
    have hf5 : Fr No w3 (w4.alloc (.cells #[.int .i64 0, .int .i64 0, .int .i64 0, .slice none 0 0] 36)) := hf4.alloc _
    generalize w4.alloc (.cells #[.int .i64 0, .int .i64 0, .int .i64 0, .slice none 0 0] 36) = w5 at *
    have hL5 := hL3.fr0 hf5
    have hl5 := hl3.fr0 hf5
    have hw5 := hw3.trans0 hf5
    have hr := Revoke_none (by omega) hL5 id hwf hx
    have hli := list_at (by omega) hL5
    clear hg hf4 hL3 hl3 hf5 hw3 hx
    go_wp2_with (first
      | (go_at_call 17; (with_reducible refine hr.mono ?_); rintro e w6 ⟨rfl, rfl⟩)
      | (go_at_call 11; (with_reducible refine hli.mono ?_); rintro e w7 ⟨a7, c7, rfl, H7⟩
         obtain ⟨P7, hp7, hl7, hf7⟩ := H7.out
         have HC := Lib.hid (same_at (hl5.fr0 hf7) hl7 hp3 hp7))
      | (go_at_call 13; (with_reducible refine HC.out.mono ?_); rintro e w8 ⟨rfl, hf8⟩)
      | (go_at_call 14; (with_reducible refine (awake_calls _).mono ?_); rintro e w9 ⟨rfl, hf9⟩))
    go_ret
    exact ⟨rfl, ((hw5.trans0 hf7).trans0 hf8).trans0 hf9⟩
  | some x =>
    have hg := Get_some (by omega) hL3 id hwf hx
    unfold lvV at hg
    go_upto_region 4 with (go_at_call 16; (with_reducible refine hg.mono ?_); rintro e w4 ⟨ka, kc, rfl, H4⟩; dsimp only)
    obtain ⟨hfs, hf4⟩ := H4.out
    have hb5 := alloc_at w4 (.cells #[.int .i64 x.id, .int .i64 x.ticks, .int .i64 x.left, .slice ka x.keys.length kc] 36) w4.heap.size rfl
    have hf5 : Fr No w3 (w4.alloc (.cells #[.int .i64 x.id, .int .i64 x.ticks, .int .i64 x.left, .slice ka x.keys.length kc] 36)) := hf4.alloc _
    have hks := hfs.1.alloc (.cells #[.int .i64 x.id, .int .i64 x.ticks, .int .i64 x.left, .slice ka x.keys.length kc] 36)
    have hkn := hfs.2
    generalize w4.alloc (.cells #[.int .i64 x.id, .int .i64 x.ticks, .int .i64 x.left, .slice ka x.keys.length kc] 36) = w5 at *
    obtain ⟨nb, hnb, hnb2⟩ : ∃ nb, w4.heap.size = nb ∧ w3.heap.size ≤ nb := ⟨_, rfl, hf4.size⟩
    rw [hnb] at hb5 ⊢
    have hL5 := hL3.fr0 hf5
    have hl5 := hl3.fr0 hf5
    have hw5 := hw3.trans0 hf5
    have hr := Revoke_some (by omega) hL5 id hwf hx
    clear hg H4 hfs hf4 hL3 hl3 hf5 hnb
    go_upto_region 5 with (go_at_call 17; (with_reducible refine hr.mono ?_); rintro e w6 ⟨qa, qc, rfl, H6⟩)
    obtain ⟨hq6, F6, hL6, hf6, hF6, hd6⟩ := H6.out
    have hx6 := hf6.heap hb5 fun h => by have := hFl3 _ h; omega
    have hl6 := hl5.fr hf6 (fun b hb h => by have := hl5.new b hb; have := hFl b h; omega) (fun p hp b hb h => by have := ((hl5.keys p hp).2 b hb).1; have := hFl b h; omega)
    have hk6 := hks.fr hf6 fun b hb h => by have := hkn b hb; have := hFl3 b h; omega
    have hw6 := frn hw5 hf6 hFw
    have hxm := (getR_mem hx).1
    have hof : ∀ k ∈ x.keys, Calls Try.prog 15 #[.pointer (some ⟨t, 0, none⟩), .string k] w6 fun e w' => e = .returned (.int .i64 0) ∧ w6 = w' := fun k hk => by
      have := Of_at hL6 k ((hL2'.klen x hxm).2 k hk)
      rw [revoke_keys hL2' hx hk] at this
      exact this
    have hgn := revoke_gone R id
    obtain ⟨_, _, hve, hqc, hqm, hqp⟩ := hq6.shape
    simp only [Value.slice.injEq, true_and] at hve
    obtain ⟨rfl, rfl⟩ := hve
    unfold maxLen at hqm
    have hpn : P3.length = R.length := by rw [← hp3, List.length_map]
    have hrl := hL2'.len
    obtain ⟨_, _, hve3, hc3, hc3m, hp3a⟩ := hl6.sl.shape
    rw [hpn] at hve3 hc3 hp3a
    simp only [Value.slice.injEq, true_and] at hve3
    obtain ⟨rfl, rfl⟩ := hve3
    unfold maxLen at hc3m
    have HPA := Lib.hid hp3a
    have hmp := notId_map hp3 id
    have HMP := Lib.hid hmp
    have HQ := Lib.hid hq6
    have HQP := Lib.hid hqp
    have HOF := Lib.hid hof
    have HX6 := Lib.hid hx6
    have HLI := Lib.hid hl6
    have HK6 := Lib.hid hk6
    have HW6 := Lib.hid hw6
    have HL6 := Lib.hid hL6
    have HGN := Lib.hid hgn
    have HP3 := Lib.hid hp3
    clear hr H6 hf6 hF6 hd6 hb5 hks hkn hL5 hl5 hw5 hx6 hl6 hk6 hw6 hL6 hof hgn hq6 hqp hp3 hFl hFl3 hFw hw3 hx hxm hL2' hp3a hmp
    generalize revokeR R id = R' at *
    go_upto_region 10 with fail
    go_loopg [11] x.keys.length (fun g s11 wr => ∃ i : Nat, s11 = .int .i64 i ∧ i + g = x.keys.length ∧ w6 = wr)
    case atStart => exact ⟨0, rfl, by omega, rfl⟩
    case round =>
      obtain ⟨i, rfl, hi, rfl⟩ := hrel
      cases gk with
      | succ g =>
        have hil : (i : Int) < (x.keys.length : Int) := by omega
        obtain ⟨y, hy⟩ : ∃ y, x.keys[i]? = some y := ⟨_, List.getElem?_eq_getElem (by omega)⟩
        obtain ⟨gq, oq, rfl⟩ := HQP.out (by omega)
        have f0 := HQ.out.cell0 strC_len i hy rfl
        simp only [Nat.mul_one] at f0
        have HO := Lib.hid (HOF.out y (List.mem_of_getElem? hy))
        clear hy
        go_wp2_with (go_at_call 15; (with_reducible refine HO.out.mono ?_); rintro e w7 ⟨rfl, rfl⟩)
        go_roundg g
        case rel => exact ⟨i + 1, by go_num, by omega, rfl⟩
        case measure => omega
      | zero =>
        have hil : ¬ (i : Int) < (x.keys.length : Int) := by omega
        clear HOF HQP
        go_upto_region 16 with fail
        go_loopg [12, 13] R.length (fun g s12 s13 wr => ∃ (i : Nat) (u : Value), s13 = .int .i64 i ∧ s12 = u ∧ i + g = R.length ∧ Hid (SlF wr 36 4 lvC u ((P3.take i).filter (notId id))) ∧ Hid (∀ b, u.ownBlock = some b → w6.heap.size ≤ b) ∧ Hid (Fr No w6 wr))
        case atStart => exact ⟨0, _, rfl, rfl, by omega, Lib.hid (SlF.nil _ _ _ _), Lib.hid (by simp [Value.ownBlock]), Lib.hid (Fr.refl No w6)⟩
        case round =>
          obtain ⟨j, u, rfl, rfl, hj, HU, HUN, HF⟩ := hrel
          cases gk with
          | succ g =>
            have hjl : (j : Int) < (R.length : Int) := by omega
            obtain ⟨p, hp⟩ : ∃ p, P3[j]? = some p := ⟨_, List.getElem?_eq_getElem (by omega)⟩
            obtain ⟨ga, oa, rfl⟩ := HPA.out (by omega)
            have hlw := HLI.out.fr0 HF.out
            have hsl := hlw.sl
            rw [← hpn] at hsl
            obtain ⟨f0, f1, f2, f3⟩ := hsl.cells4 lvC_length j hp rfl
            obtain ⟨pa, pc, hpv, _, _, _⟩ := (hlw.keys p (List.mem_of_getElem? hp)).1.shape
            have hft := filter_take (notId id) hp
            obtain ⟨⟨pi, pt, pl, pk⟩, pv⟩ := p
            dsimp only at hpv f0 f1 f2 f3
            subst hpv
            generalize pk.length = pkn at *
            obtain ⟨i0, hi0, hz0, hz1, hz2⟩ := info_parts info36
            have hfl : ((P3.take j).filter (notId id)).length ≤ 200 := by
              have h1 := List.length_filter_le (notId id) (P3.take j)
              have h2 := List.length_take_le j P3
              omega
            have hnew := cells_new wr [.int .i64 pi, .int .i64 pt, .int .i64 pl, .slice pa pkn pc] 36 (0, 0)
            have HFT := Lib.hid hft
            clear hft hsl hlw hp
            by_cases hne : pi = id
            · have hq : notId id (⟨pi, pt, pl, pk⟩, .slice pa pkn pc) = false := by unfold notId; simp [hne]
              go_wp2
              go_roundg g
              case rel => exact ⟨j + 1, u12, by go_num, rfl, by omega, Lib.hid (by rw [HFT.out, hq, if_neg (by decide)]; exact HU.out), HUN, HF⟩
              case measure => omega
            · have hq : notId id (⟨pi, pt, pl, pk⟩, .slice pa pkn pc) = true := by unfold notId; simp [hne]
              go_wp2_with (at_builtin; go_loud (refine wpList_append_f rfl _ _ 27 rfl 36 i0 _ 4 48 Try.underlying27 hi0 hz0 hz1 hz2 rfl (by decide) _ ((P3.take j).filter (notId id)) rfl (HU.out.alloc _) wr.heap.size 1 (⟨pi, pt, pl, pk⟩, .slice pa pkn pc) rfl hnew rfl ?c1 ?c2 ?c3 ?_))
              case c1 => intro u hu; simp [lvC] at hu; rcases hu with h | h | h | h <;> (rw [h]; rfl)
              case c2 => unfold maxLen; omega
              case c3 => omega
              intro g7 o7 cap7 w9 hs9 hg9 hb9 hlt9
              have hf9 : Fr (fun b => u12.ownBlock = some b) wr w9 := ((Fr.refl _ wr).alloc _).trans ((Fr.refl _ _).grown hg9 fun k hk => .inl hk) fun _ _ h => h
              have hF9 : Fr No w6 w9 := HF.out.trans hf9 fun b hb h => by have := HUN.out b h; omega
              have hn9 : ∀ b, (Value.slice (some ⟨g7, o7, none⟩) (((P3.take j).filter (notId id)).length + 1) cap7).ownBlock = some b → w6.heap.size ≤ b := fun b hb => by
                have e : b = g7 := by simpa [Value.ownBlock] using hb.symm
                rw [e]
                rcases hb9 with h | h
                · exact HUN.out _ h
                · have h' : g7 = wr.heap.size + 1 := by simpa using h
                  have := HF.out.size
                  omega
              have HS9 := Lib.hid hs9
              have HF9 := Lib.hid hF9
              have HN9 := Lib.hid hn9
              clear hs9 hg9 hb9 hf9 hF9 hn9
              go_wp2
              go_roundg g
              case rel => exact ⟨j + 1, _, by go_num, rfl, by omega, Lib.hid (by rw [HFT.out, hq, if_pos rfl]; exact HS9.out), HN9, HF9⟩
              case measure => omega
          | zero =>
            have hjl : ¬ (j : Int) < (R.length : Int) := by omega
            have hu := HU.out
            rw [List.take_of_length_le (by omega)] at hu
            obtain ⟨ua, uc, rfl, _, _, _⟩ := hu.shape
            have HLR : Hid (LstR wr (.slice ua (P3.filter (notId id)).length uc) (P3.filter (notId id))) := Lib.hid ⟨hu, fun p hp => ((HLI.out.keys p ((List.mem_filter.1 hp).1)).1.fr0 HF.out)⟩
            have hgt := Get_none (by omega) (HL6.out.fr0 HF.out) id hwf HGN.out
            unfold lvV at hgt
            clear hu HU HUN
            go_upto_region 21 with (go_at_call 16; (with_reducible refine hgt.mono ?_); rintro e w9 ⟨rfl, hf9⟩; dsimp only)
            have hf10 : Fr No wr (w9.alloc (.cells #[.int .i64 0, .int .i64 0, .int .i64 0, .slice none 0 0] 36)) := hf9.alloc _
            generalize w9.alloc (.cells #[.int .i64 0, .int .i64 0, .int .i64 0, .slice none 0 0] 36) = w10 at *
            have hF10 := HF.out.trans0 hf10
            have hx10 := hF10.heap HX6.out fun h => h
            obtain ⟨z0, z1, z2, z3⟩ := cells4 hx10
            have lz := heap_lt hx10
            have hT := texts_calls w10 _ _ x.keys ((HQ.out.fr0 hF10).toR strC_len) ((HK6.out.fr0 hF10).toR strC_len)
            have HF10 := Lib.hid hF10
            have HR10 := Lib.hid (HLR.out.fr0 hf10)
            have hli := fun W (hW : Fr No w6 W) => list_at (by omega) (HL6.out.fr0 hW)
            have HLS := Lib.hid hli
            have HTT := Lib.hid hT
            clear hgt hf9 hf10 hF10 hx10 hT hli HLR
            go_wp2_with (first
              | (go_at_call 18; (with_reducible refine HTT.out.mono ?_); rintro e w11 ⟨rfl, hf11⟩; have HF11 := Lib.hid (HF10.out.trans0 hf11); have HR11 := Lib.hid (HR10.out.fr0 hf11); clear hf11)
              | (go_at_call 11; (with_reducible refine (HLS.out _ HF11.out).mono ?_); rintro e w12 ⟨a12, c12, rfl, H12⟩
                 obtain ⟨P12, hp12, hl12, hf12⟩ := H12.out
                 have HC := Lib.hid (same_calls w12 _ _ _ _ (HR11.out.fr0 hf12) hl12.rd (by rw [HMP.out, hp12]))
                 have HF12 := Lib.hid (HF11.out.trans0 hf12)
                 clear hf12 hl12 hp12 H12)
              | (go_at_call 13; (with_reducible refine HC.out.mono ?_); rintro e w13 ⟨rfl, hf13⟩)
              | (go_at_call 14; (with_reducible refine (awake_calls _).mono ?_); rintro e w14 ⟨rfl, hf14⟩))
            go_ret
            exact ⟨rfl, ((HW6.out.trans0 HF12.out).trans0 hf13).trans0 hf14⟩
end Go.Proofs.Ytlomeohcgjgpjaa
