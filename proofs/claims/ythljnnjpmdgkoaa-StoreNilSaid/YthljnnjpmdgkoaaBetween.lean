/- The store's 'between': what the keys of a range have at a revision; nothing is changed. The condition: histories are small (HistOk). -/
import Derived.Test.YthljnnjpmdgkoaaHad
namespace Go.Proofs.Ythljnnjpmdgkoaa
open Go Go.Proofs Go.RowKit
set_option maxRecDepth 100000

/-- Where a range ends. -/
def toOf (key end_ : ByteArray) : ByteArray := if end_.toList.isEmpty then key ++ ⟨#[0]⟩ else if end_.toList == [0] then ByteArray.empty else end_
def oneL (S : St) (rev : Int) (p : ByteArray × Int) : Option Kv := match S.past p.2 with
  | some H => if (hadH H rev).2 then some (hadH H rev).1 else none
  | none => none
def betweenL (S : St) (R : Pairs) (rev : Int) : List Kv := R.filterMap (oneL S rev)
def betweenS (S : St) (key end_ : ByteArray) (rev : Int) : List Kv := betweenL S (rangeT S.T key (toOf key end_)) rev

theorem info57 : (Try.prog.info? 57).map (fun i => (i.zero, i.size, i.bytes)) = some (some (.agg #[.string ByteArray.empty, .string ByteArray.empty, .int .i64 0, .int .i64 0, .int .i64 0, .int .i64 0]), 6, 64) := by kernel_rfl

theorem mem_rangeT {T : Pairs} {a b : ByteArray} {p : ByteArray × Int} (h : p ∈ rangeT T a b) : p ∈ T := (List.mem_filter.1 h).1

set_option maxHeartbeats 4000000 in
theorem between_calls {TA : TreeRel} {N : Nat} (hT : TreeOk TA N) {n : Nat} (hn : n ≤ 1099511627) (w : World) (s : Nat) (S : St) (F : Nat → Prop) (hS : StoreAt TA w s S F) (hok : StOk n S) (hN : S.T.length ≤ 1099511627) (key end_ : ByteArray) (rev : Int) (hks : key.size ≤ 1099511627776) :
    Calls Try.prog 77 #[.pointer (some ⟨s, 0, none⟩), .string key, .string end_, .int .i64 rev] w fun e w' => ∃ v, e = .returned v ∧ SlF w' 57 6 kvC v (betweenS S key end_ rev) ∧ Fr No w w' ∧ (∀ b, v.ownBlock = some b → w.heap.size ≤ b) := by
  have hhad := fun W hW at_ H hH => had_calls hT hn W s S F hW hok at_ rev H hH
  have hSA := Lib.hid hS
  obtain ⟨t, p, ev, hp, FT, FH, a, hF⟩ := hS
  have c0 := a.obj.cell 0 rfl
  have l1 := a.obj.lt
  have HT := Lib.hid a.tree
  have HLen := Lib.hid fun W hW => hT.len (w := W) (t := t) (T := S.T) (F := FT) hW
  have hrange := fun W to hW => hT.range (w := W) (t := t) (T := S.T) (F := FT) key to hW
  have HH := Lib.hid hhad
  have HOk := Lib.hid hok.id
  obtain ⟨i0, hi0, hz0, hz1, hz2⟩ := info_parts info57
  have hlenR : ∀ to, (rangeT S.T key to).length ≤ S.T.length := fun to => List.length_filter_le _ _
  have hto : (end_.toList.isEmpty = true ∧ toOf key end_ = key ++ ⟨#[0]⟩) ∨ (end_.toList.isEmpty = false ∧ (end_.toList == [0]) = true ∧ toOf key end_ = ⟨#[]⟩) ∨ (end_.toList.isEmpty = false ∧ (end_.toList == [0]) = false ∧ toOf key end_ = end_) := by
    unfold toOf
    have he : ByteArray.empty = ⟨#[]⟩ := rfl
    rw [he]
    cases h1 : end_.toList.isEmpty
    · cases h2 : (end_.toList == [0])
      · exact .inr (.inr ⟨rfl, rfl, by simp⟩)
      · exact .inr (.inl ⟨rfl, rfl, by simp⟩)
    · exact .inl ⟨rfl, by simp⟩
  have hks' : ¬ 9223372036854775807 < key.size + 1 := by omega
  clear a hhad hks
  have HF0 : Fr No w w := Fr.refl No w
  have HX : ∃ X, toOf key end_ = X ∧ ((end_.toList.isEmpty = true ∧ X = key ++ ⟨#[0]⟩) ∨ (end_.toList.isEmpty = false ∧ (end_.toList == [0]) = true ∧ X = ⟨#[]⟩) ∨ (end_.toList.isEmpty = false ∧ (end_.toList == [0]) = false ∧ X = end_)) := ⟨_, rfl, hto⟩
  obtain ⟨X, hX, hto⟩ := HX
  unfold betweenS
  rw [hX]
  have hRl := hlenR X
  have hRm : ∀ q ∈ rangeT S.T key X, q ∈ S.T := fun q hq => mem_rangeT hq
  have hrX := fun W hW => hrange W X hW
  generalize rangeT S.T key X = R at hRl hRm hrX ⊢
  have HRM := Lib.hid hRm
  have HRange := Lib.hid hrX
  clear hlenR hrange hRm hrX hX
  rcases hto with ⟨h1, hX2⟩ | ⟨h1, h2, hX2⟩ | ⟨h1, h2, hX2⟩
  all_goals
    have HX2 := Lib.hid hX2
    clear hX2
    go_enter Try.func77, Try.ntmps77
    go_wp2_with fail
    have hS0 : w.drew.cell? ⟨s, 0, none⟩ = some (.pointer (some ⟨t, 0, none⟩)) := c0
    go_region_held (fun W => W.cell? ⟨s, 0, none⟩ = some (.pointer (some ⟨t, 0, none⟩)))
      (first | assumption | exact hf2.cell0 c0)
      (first
        | (go_at_call 70; refine (HLen.out _ (hT.fr HT.out (Fr.refl No w).drew (fun _ _ s => s))).mono ?_; rintro e w' ⟨rfl, rfl⟩)
        | (go_at_call 69; (first | rw [← HX2.out] | skip); refine (HRange.out _ (hT.fr HT.out (Fr.refl No w).drew (fun _ _ s => s))).mono ?_; rintro e w2 ⟨v, rfl, hv, hf1, hvn⟩
           have hf2 : Fr No w w2 := (Fr.refl No w).drew.trans0 hf1
           obtain ⟨va, vcap, rfl, hc1, hc2, hva⟩ := hv.shape
           have HV := Lib.hid hv
           have HVA := Lib.hid hva
           clear hv hva))
    clear hS0
    have l2 := hf2.size
    go_wp2_with fail
    go_loopg [36, 10] R.length (fun g s36 s10 wr => ∃ (i : Nat) (o : Value), s36 = .int .i64 i ∧ s10 = o ∧ i + g = R.length ∧ Hid (SlF wr 57 6 kvC o (betweenL S (R.take i) rev)) ∧ Fr No w wr ∧ w2.heap.size ≤ wr.heap.size ∧ Hid (∀ b, o.ownBlock = some b → w2.heap.size ≤ b) ∧ Hid (Fr No w2 wr))
    case atStart => exact ⟨0, _, rfl, rfl, by simp, Lib.hid (SlF.nil _ _ _ _), hf2, Nat.le_refl _, Lib.hid (by simp [Value.ownBlock]), Lib.hid (Fr.refl _ _)⟩
    case round =>
      obtain ⟨i, o, rfl, rfl, hi, HO, hfr, hsz, HOn, HF2⟩ := hrel
      cases gk with
      | zero =>
        have hil : ¬ (i : Int) < (R.length : Int) := by omega
        go_wp2
        go_ret
        have e1 := HO.out
        rw [List.take_of_length_le (by omega)] at e1
        exact ⟨_, rfl, e1, hfr, fun b hb => by have := HOn.out b hb; omega⟩
      | succ g =>
        have hil : (i : Int) < (R.length : Int) := by omega
        obtain ⟨q, hq⟩ : ∃ q, R[i]? = some q := ⟨_, List.getElem?_eq_getElem (by omega)⟩
        obtain ⟨H, hH⟩ := HOk.out q (HRM.out q (List.mem_of_getElem? hq))
        obtain ⟨gb, go, rfl⟩ := HVA.out (by omega)
        have hVr := HV.out.fr0 HF2.out
        have x0 := hVr.cell0 pairC_length i hq rfl
        have x1 := hVr.cell pairC_length i 1 hq rfl
        have hone : oneL S rev q = if (hadH H rev).2 then some (hadH H rev).1 else none := by unfold oneL; rw [hH]
        have hstep : betweenL S (R.take (i + 1)) rev = betweenL S (R.take i) rev ++ (oneL S rev q).toList := by
          unfold betweenL
          rw [List.take_add_one, hq, List.filterMap_append]
          cases h : oneL S rev q <;> simp [h]
        have HST := Lib.hid hstep
        have HON := Lib.hid hone
        have HPH := Lib.hid hH
        have HQ := Lib.hid hq
        clear hstep hone hH hq hVr
        rcases hr : hadH H rev with ⟨⟨r1, r2, r3, r4, r5, r6⟩, rb⟩
        rw [hr] at HON
        have HR := Lib.hid hr
        clear hr
        obtain ⟨o1, o2, rfl, ho1, ho2, ho3⟩ := HO.out.shape
        clear ho3
        have hob : (betweenL S (R.take i) rev).length ≤ R.length := Nat.le_trans (List.length_filterMap_le _ _) (by simp; omega)
        have hi5 : 0 ≤ (i : Int) + 1 := by omega
        cases rb
        · have HE : Hid (betweenL S (R.take (i + 1)) rev = betweenL S (R.take i) rev) := Lib.hid (by rw [HST.out, HON.out]; simp)
          clear HST HON
          go_wp2_with (go_at_call 71; refine (HH.out _ (hSA.out.fr0 hT (hfr.alloc _)) q.2 H HPH.out).mono ?_; rintro e w3 ⟨rfl, hf3⟩
                       have hf4 : Fr No wr w3 := ((Fr.refl No wr).alloc _).trans0 hf3
                       rw [HR.out]; unfold kvTuple kvV)
          go_roundg g
          case rel =>
            have hf5 : Fr No wr (w3.alloc (Obj.cells #[Value.string r1, Value.string r2, Value.int .i64 r3, Value.int .i64 r4, Value.int .i64 r5, Value.int .i64 r6] 57)) := hf4.alloc _
            exact ⟨i + 1, _, by go_num, rfl, by omega, Lib.hid (by rw [HE.out]; exact HO.out.fr0 hf5), hfr.trans0 hf5, Nat.le_trans hsz hf5.size, HOn, Lib.hid (HF2.out.trans0 hf5)⟩
          case measure => omega
        · have HE : Hid (betweenL S (R.take (i + 1)) rev = betweenL S (R.take i) rev ++ [⟨r1, r2, r3, r4, r5, r6⟩]) := Lib.hid (by rw [HST.out, HON.out]; simp)
          clear HST HON
          go_wp2_with (first
            | (go_at_call 71; refine (HH.out _ (hSA.out.fr0 hT (hfr.alloc _)) q.2 H HPH.out).mono ?_; rintro e w3 ⟨rfl, hf3⟩
               have hf4 : Fr No wr w3 := ((Fr.refl No wr).alloc _).trans0 hf3
               have hnew := cells_new (w3.alloc (.cells [Value.string r1, .string r2, .int .i64 r3, .int .i64 r4, .int .i64 r5, .int .i64 r6].toArray 57)) [Value.string r1, .string r2, .int .i64 r3, .int .i64 r4, .int .i64 r5, .int .i64 r6] 57 (0, 0)
               rw [HR.out]; unfold kvTuple kvV)
            | (at_builtin; refine wpList_append_f rfl _ _ 53 rfl 57 i0 _ 6 64 Try.underlying53 hi0 hz0 hz1 hz2 rfl (by decide) _ (betweenL S (R.take i) rev) rfl (((HO.out.fr0 hf4).alloc _).alloc _) (w3.heap.size + 1) 1 (⟨r1, r2, r3, r4, r5, r6⟩ : Kv) rfl (by simpa [kvC] using hnew) rfl ?c1 ?c2 ?c3 ?_))
          case c1 => intro u hu; simp [kvC] at hu; rcases hu with rfl | rfl | rfl | rfl | rfl | rfl <;> rfl
          case c2 => unfold maxLen; omega
          case c3 => omega
          intro g1 o' cap w4 hs4 hg4 hb4 hlt4
          have hlen4 : (betweenL S (R.take i) rev ++ [(⟨r1, r2, r3, r4, r5, r6⟩ : Kv)]).length = (betweenL S (R.take i) rev).length + 1 := by simp
          have hfA : Fr No w w4 := (((hfr.trans0 hf4).alloc _).alloc _).grown hg4 fun k hk => .inr (by have := HOn.out k hk; omega)
          have hfB : Fr No w2 w4 := (((HF2.out.trans0 hf4).alloc _).alloc _).grown hg4 fun k hk => .inr (HOn.out k hk)
          have hg1 : w2.heap.size ≤ g1 := by
            rcases hb4 with e | e
            · exact HOn.out _ e
            · have := hf4.size; try simp at e
              omega
          have H4 := Lib.hid hs4
          have HL4 := Lib.hid hlen4
          clear hs4 hlen4 hg4 hb4 hnew
          go_wp2
          go_roundg g
          case rel =>
            exact ⟨i + 1, _, by go_num, rfl, by omega, Lib.hid (by rw [HE.out]; exact H4.out), hfA, hfB.size, Lib.hid (fun b hb => by simp [Value.ownBlock] at hb; omega), Lib.hid hfB⟩
          case measure => omega
end Go.Proofs.Ythljnnjpmdgkoaa
