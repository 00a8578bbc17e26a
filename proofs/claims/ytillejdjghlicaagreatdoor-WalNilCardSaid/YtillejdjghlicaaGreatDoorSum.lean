/- Sums of bytes: Table, Go and Sum compute a function of the bytes. The condition: fewer than 2^40 bytes. -/
import Derived.Test.YtillejdjghlicaaGreatDoorSegN
import Derived.Deep.MidRow
namespace Go.Proofs.YtillejdjghlicaaGreatDoor
open Go Go.Proofs Go.RowKit Go.WideElems Go.ChangeMaps Go.WideMaps Go.Shelf
set_option maxRecDepth 100000
theorem Fr.setCells {S : Nat → Prop} {a : World} {b : Nat} (hb : S b ∨ a.heap.size ≤ b) (vs : List Value) : ∀ {w : World} (o : Nat), Fr S a w → Fr S a (w.setCells b o vs) := by
  induction vs with
  | nil => exact fun _ h => h
  | cons v vs ih => exact fun o h => ih (o + 1) (h.setCell (p := ⟨b, o, none⟩) hb v)
theorem results_cell1 {fn : Func} {a : Tmp} {t : TypeId} (h : fn.results = #[.cell a t]) (tmps : Array Value) (P : Program) (w : World) (b : Nat) (v : Value) (ha : tmps.getD a undef = .pointer (some ⟨b, 0, none⟩)) (hl : (loadVar t ⟨b, 0, none⟩).run P w = .ok v w) :
    (results fn tmps).run P w = .ok v w := by
  have ha' : tmps[a]?.getD undef = .pointer (some ⟨b, 0, none⟩) := by simpa using ha
  simp [results, h, ha', hl, asAddr]
def stepT (n : Int) : Int := bits BinOp.xor IntKind.u32 (n / 2) (bits BinOp.and IntKind.u32 3988292384 (-bits BinOp.and IntKind.u32 n 1 % 4294967296))
def tabI : Nat → Int → Int
  | 0, n => n
  | k + 1, n => stepT (tabI k n)
def tabV (j : Nat) : Int := tabI 8 j
def tabT : List Value := (List.range 256).map fun j => .int .u32 (tabV j)
set_option maxHeartbeats 4000000 in
theorem table_calls (w : World) : Calls Tryz.prog 64 #[] w fun e w' => e = .returned (.agg tabT.toArray) ∧ Fr No w w' := by
  have hz : Tryz.zeroCells96.size = 256 := by kernel_rfl
  have hsz : ((w.alloc (Obj.cells Tryz.zeroCells96 96)).alloc (Obj.cells Tryz.zeroCells96 96)).heap.size = w.heap.size + 2 := by simp
  have hb0 : ((w.alloc (Obj.cells Tryz.zeroCells96 96)).alloc (Obj.cells Tryz.zeroCells96 96)).heap[w.heap.size]? = some (.cells Tryz.zeroCells96 96 (0, 0)) := alloc_old (alloc_at w _ _ rfl) _
  have hb1 : ((w.alloc (Obj.cells Tryz.zeroCells96 96)).alloc (Obj.cells Tryz.zeroCells96 96)).heap[w.heap.size + 1]? = some (.cells Tryz.zeroCells96 96 (0, 0)) := alloc_at _ _ _ (by simp)
  have hf : Fr No w ((w.alloc (Obj.cells Tryz.zeroCells96 96)).alloc (Obj.cells Tryz.zeroCells96 96)) := ((Fr.refl No w).alloc _).alloc _
  have HB0 := Lib.hid hb0
  have HB1 := Lib.hid hb1
  have HF := Lib.hid hf
  clear hb0 hb1 hf hsz
  go_enter Tryz.func64, Tryz.ntmps64
  go_upto_region 3 with fail
  generalize ((w.alloc (Obj.cells Tryz.zeroCells96 96)).alloc (Obj.cells Tryz.zeroCells96 96)) = W0 at *
  go_loopg [2, 3, 4] 256 (fun g s2 s3 s4 wr => ∃ (i : Nat) (R : Array Value), s4 = .int .i64 i ∧ i + g = 256 ∧ R.size = 256 ∧ Hid (wr.heap[w.heap.size + 1]? = some (.cells R 96 (0, 0))) ∧ Hid (wr.heap[w.heap.size]? = some (.cells Tryz.zeroCells96 96 (0, 0))) ∧ Hid (∀ j, j < i → R[j]? = some (.int .u32 (tabV j))) ∧ Hid (Fr No w wr))
  case atStart => exact ⟨0, Tryz.zeroCells96, rfl, rfl, hz, HB1, HB0, Lib.hid fun j hj => by omega, HF⟩
  case round =>
    obtain ⟨i, R, rfl, hgi, hR, H1, H0, HT, HR⟩ := hrel
    by_cases hi : i < 256
    · go_upto_region 7 with fail
      go_loopg [3, 9] 8 (fun g s3 s9 wx => ∃ k : Nat, s3 = .int .u32 (tabI k i) ∧ s9 = .int .i64 k ∧ k + g = 8 ∧ wx = wr)
      case atStart => exact ⟨0, rfl, rfl, rfl, rfl⟩
      case round =>
        obtain ⟨k, rfl, rfl, hkg, rfl⟩ := hrel
        obtain ⟨n, hn⟩ : ∃ n, tabI k i = n := ⟨_, rfl⟩
        rw [hn]
        by_cases hk : k < 8
        · go_wp2
          go_roundg (7 - k)
          case rel =>
            exact ⟨k + 1, by rw [tabI, hn, stepT], by simp, by omega, rfl⟩
          case measure => omega
        · have hi2 : i < R.size := by omega
          have ck : wr.cell? ⟨w.heap.size + 1, i, none⟩ = some R[i] := cellAt H1.out i (by simp [hi2])
          have fk : wr.frozen? ⟨w.heap.size + 1, i, none⟩ = false := by unfold World.frozen?; rw [H1.out]; simp
          have lk : w.heap.size + 1 < wr.heap.size := heap_lt H1.out
          go_wp2
          go_roundg (255 - i)
          case rel =>
            have hk8 : k = 8 := by omega
            subst hk8
            have hf : Fr No w (wr.setCell ⟨w.heap.size + 1, i, none⟩ (.int .u32 n)) := HR.out.setCell (p := ⟨w.heap.size + 1, i, none⟩) (.inr (Nat.le_succ _)) _
            refine ⟨i + 1, R.setIfInBounds i (.int .u32 n), by simp, by omega, by simpa using hR, Lib.hid (by rw [heap_setCell_same H1.out i _]), Lib.hid (((Fr.refl (fun b => b = w.heap.size + 1) wr).setCell (p := ⟨w.heap.size + 1, i, none⟩) (.inl rfl) _).heap H0.out (by simp)), Lib.hid fun j hj => ?_, Lib.hid hf⟩
            by_cases hji : j = i
            · subst hji
              simp [hi2, tabV, hn]
            · rw [Array.getElem?_setIfInBounds_ne (by omega)]
              exact HT.out j (by omega)
          case measure => omega
    · have h256 : i = 256 := by omega
      subst h256
      have hT : R.toList = tabT := by
        refine List.ext_getElem? fun j => ?_
        unfold tabT
        rw [Array.getElem?_toList]
        by_cases hj : j < 256
        · rw [HT.out j hj, List.getElem?_map, List.getElem?_range hj]
          rfl
        · rw [Array.getElem?_eq_none (by omega), List.getElem?_eq_none (by simp; omega)]
      have hrg : wr.rangeAt (w.heap.size + 1) 0 tabT := fun j v hv => by
        rw [Nat.zero_add]
        exact cellAt H1.out j (by rw [← Array.getElem?_toList, hT]; exact hv)
      have hl : tabT.length = 256 := by unfold tabT; simp
      have hth : wr.there w.heap.size 0 tabT.toArray.size := fun j hj => by
        have hj' : j < Tryz.zeroCells96.size := by rw [hz]; simpa [hl] using hj
        rw [Nat.zero_add]
        refine ⟨by rw [cellAt H0.out j (v := Tryz.zeroCells96[j]) (by simp)]; rfl, by unfold World.frozen?; rw [H0.out]; simp⟩
      have hi : (Tryz.prog.info? 96).map (·.size) = some tabT.toArray.size := by rw [List.size_toArray, hl]; kernel_rfl
      have h1 : tabT.toArray.all (·.oneCell') = true := all_oneCell_toArray fun v hv => by
        unfold tabT at hv
        obtain ⟨j, _, rfl⟩ := List.mem_map.1 hv
        rfl
      have HF2 : Hid (Fr No w (wr.setCells w.heap.size 0 tabT)) := Lib.hid (HR.out.setCells (.inr (Nat.le_refl _)) tabT 0)
      have HB2 : Hid ((wr.setCells w.heap.size 0 tabT).rangeAt w.heap.size 0 tabT) := Lib.hid (World.rangeAt_setCells_same wr w.heap.size 0 tabT (by simpa using hth))
      have HX2 : (Tryz.prog.info? 96).map (·.size) = some tabT.length := by rw [hl]; kernel_rfl
      have HX := Lib.hid (And.intro hth (And.intro hi h1))
      clear hth hi h1
      go_wp2_with (first
        | (refine wpList_load_mid rfl 96 _ rfl (w.heap.size + 1) 0 rfl tabT _ hrg Tryz.underlying96 rfl (by kernel_rfl) ?_)
        | (refine wpList_store_mid rfl 96 _ _ rfl w.heap.size 0 tabT.toArray rfl rfl HX.out.1 HX.out.2.1 HX.out.2.2 ?_))
      exact bodyPost_ret (results_cell1 rfl _ _ _ w.heap.size _ rfl (run_loadVar_mid _ _ 0 96 tabT _ HB2.out Tryz.underlying96 rfl HX2)) rfl ⟨rfl, HF2.out⟩
theorem bits_bound (op : BinOp) (a b : Int) : 0 ≤ bits op .u32 a b ∧ bits op .u32 a b < 4294967296 := by
  unfold bits
  dsimp only
  rw [IntKind.wrap_u32]
  omega
/-- A sum that goes on. -/
def goS : Int → List UInt8 → Int
  | n, [] => n
  | n, b :: l => goS (bits .xor .u32 (n / 256) (tabV (bits .xor .u8 (n % 256) b.toNat).toNat)) l
theorem goS_bound : ∀ (l : List UInt8) (n : Int), 0 ≤ n ∧ n < 4294967296 → 0 ≤ goS n l ∧ goS n l < 4294967296
  | [], n, h => h
  | b :: l, n, h => goS_bound l _ (bits_bound ..)
/-- The sum of bytes. -/
def sumI (l : List UInt8) : Int := bits .xor .u32 IntKind.u32.max (goS (bits .xor .u32 IntKind.u32.max 0) l)
def sumS (l : List UInt8) : Nat := (sumI l).toNat
theorem sumS_eq (l : List UInt8) : (sumS l : Int) = sumI l := by
  have := bits_bound .xor IntKind.u32.max (goS (bits .xor .u32 IntKind.u32.max 0) l)
  unfold sumS sumI
  omega
theorem sumS_lt (l : List UInt8) : sumS l < 4294967296 := by
  have := bits_bound .xor IntKind.u32.max (goS (bits .xor .u32 IntKind.u32.max 0) l)
  unfold sumS sumI
  omega
theorem goS_snoc : ∀ (l : List UInt8) (n : Int) (b : UInt8), goS n (l ++ [b]) = bits .xor .u32 (goS n l / 256) (tabV (bits .xor .u8 (goS n l % 256) b.toNat).toNat)
  | [], _, _ => rfl
  | _ :: l, _, b => goS_snoc l _ b
theorem bits_u8 (op : BinOp) (a b : Int) : 0 ≤ bits op .u8 a b ∧ bits op .u8 a b < 256 := by
  unfold bits
  dsimp only
  rw [IntKind.wrap_u8]
  omega
set_option maxHeartbeats 4000000 in
theorem go_calls (w : World) (d : ByteArray) (hd : d.size ≤ 1099511627776) : Calls Tryz.prog 63 #[.agg tabT.toArray, .int .u32 0, .string d] w fun e w' => e = .returned (.int .u32 (sumS (txt d))) ∧ Fr No w w' := by
  have hsg : ¬ (IntKind.u32.signed = true) := by decide
  have hcv : ∀ W, ∃ cap, d.size ≤ cap ∧ (convert 9 98 (.string d)).run Tryz.prog W = .ok (.slice (some ⟨W.heap.size, 0, none⟩) d.size cap) (Lib.bytesWorld W 5 d) := fun W => ⟨_, grownCap_ge W d.size 0 5, Lib.run_convert_string_bytes W 9 98 5 d Tryz.underlying9 Tryz.underlying98 Tryz.underlying5⟩
  have hb1 := alloc_at w (.cells tabT.toArray 96) _ rfl
  obtain ⟨cap, hcap, hc1⟩ := hcv (w.alloc (.cells tabT.toArray 96))
  have hf : Fr No w (Lib.bytesWorld (w.alloc (.cells tabT.toArray 96)) 5 d) := ((Fr.refl No w).alloc _).trans0 (fr_bytesWorld _ _ _)
  have hb2 := (fr_bytesWorld (w.alloc (.cells tabT.toArray 96)) 5 d).heap hb1 fun h => h
  have hcell := fun j => Lib.bytesWorld_cell (w.alloc (.cells tabT.toArray 96)) 5 d j
  have HB := Lib.hid hb2
  have HC := Lib.hid hcell
  have HF := Lib.hid hf
  obtain ⟨n0, hn0⟩ : ∃ n0, bits .xor .u32 IntKind.u32.max 0 = n0 := ⟨_, rfl⟩
  have hn1 := bits_bound .xor IntKind.u32.max 0
  rw [hn0] at hn1
  have HS : Hid (bits .xor .u32 IntKind.u32.max (goS n0 (txt d)) = sumS (txt d)) := Lib.hid (by rw [sumS_eq]; unfold sumI; rw [hn0])
  clear hb1 hf hb2 hcell hcv
  go_enter Tryz.func63, Tryz.ntmps63
  go_upto_region 3 with fail
  have hsz1 : (w.alloc (.cells tabT.toArray 96)).heap.size = w.heap.size + 1 := by simp
  rw [hsz1] at HC
  have hlw : w.heap.size + 1 < (Lib.bytesWorld (w.alloc (.cells tabT.toArray 96)) 5 d).heap.size := by rw [Lib.bytesWorld_size, hsz1]; omega
  clear hc1 hsz1
  generalize Lib.bytesWorld (w.alloc (.cells tabT.toArray 96)) 5 d = W1 at *
  go_loopg [7, 15] d.size (fun g s7 s15 wr => ∃ i : Nat, s7 = .int .u32 (goS n0 ((txt d).take i)) ∧ s15 = .int .i64 i ∧ i + g = d.size ∧ wr = W1)
  case atStart => exact ⟨0, rfl, rfl, by omega, rfl⟩
  case round =>
    obtain ⟨i, rfl, rfl, hig, rfl⟩ := hrel
    by_cases hi : i < d.size
    · have hil : i < (txt d).length := by rw [show (txt d).length = d.size from (Lib.size_eq d).symm]; exact hi
      obtain ⟨b, hb⟩ : ∃ b, (txt d)[i]? = some b := ⟨_, List.getElem?_eq_getElem hil⟩
      have hcb := HC.out i hi
      have hbb : d.data.toList.getD i 0 = b := by rw [List.getD_eq_getElem?_getD, show d.data.toList = txt d from rfl, hb]; rfl
      rw [hbb] at hcb
      have htk : (txt d).take (i + 1) = (txt d).take i ++ [b] := by rw [List.take_add_one, hb]; rfl
      obtain ⟨n, hn⟩ : ∃ n, goS n0 ((txt d).take i) = n := ⟨_, rfl⟩
      have hnb := goS_bound ((txt d).take i) n0 hn1
      rw [hn] at hnb
      have HG : Hid (goS n0 ((txt d).take (i + 1)) = bits .xor .u32 (n / 256) (tabV (bits .xor .u8 (n % 256) b.toNat).toNat)) := Lib.hid (by rw [htk, goS_snoc, hn])
      rw [hn]
      obtain ⟨x, hx⟩ : ∃ x, bits .xor .u8 (n % 256) b.toNat = x := ⟨_, rfl⟩
      have hxb := bits_u8 .xor (n % 256) b.toNat
      rw [hx] at hxb HG
      have hct : wr.cell? ⟨w.heap.size, x.toNat, none⟩ = some (.int .u32 (tabV x.toNat)) := cellAt HB.out x.toNat (by
        have : x.toNat < 256 := by omega
        simp [tabT, List.getElem?_map, List.getElem?_range this])
      have hlb : wr.heap.size > 0 := by omega
      clear hbb htk hb hil hn
      go_wp2
      go_roundg (d.size - i - 1)
      case rel => exact ⟨i + 1, by rw [HG.out], by simp, by omega, rfl⟩
      case measure => omega
    · have he : i = d.size := by omega
      subst he
      have htk : (txt d).take d.size = txt d := List.take_of_length_le (by rw [show (txt d).length = d.size from (Lib.size_eq d).symm]; exact Nat.le_refl _)
      rw [htk]
      have hss := HS.out
      go_wp2
      go_ret
      exact ⟨rfl, HF.out⟩
theorem sum_calls (w : World) (d : ByteArray) (hd : d.size ≤ 1099511627776) : Calls Tryz.prog 44 #[.string d] w fun e w' => e = .returned (.int .u32 (sumS (txt d))) ∧ Fr No w w' := by
  have HT := Lib.hid (table_calls w)
  have HG := Lib.hid fun W => go_calls W d hd
  generalize tabT.toArray = T at *
  go_enter Tryz.func44, Tryz.ntmps44
  go_wp2_with (first
    | (go_at_call 64; (with_reducible refine HT.out.mono ?_); rintro e w1 ⟨rfl, hf1⟩)
    | (go_at_call 63; (with_reducible refine (HG.out _).mono ?_); rintro e w2 ⟨rfl, hf2⟩))
  go_ret
  exact ⟨rfl, hf1.trans0 hf2⟩
end Go.Proofs.YtillejdjghlicaaGreatDoor
