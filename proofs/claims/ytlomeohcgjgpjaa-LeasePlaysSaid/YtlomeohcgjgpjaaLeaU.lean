/- A lease as it stands (show) and Get. The condition: the table lies in memory. -/
import Derived.Test.YtlomeohcgjgpjaaLeaS
import Derived.Test.YtlomeohcgjgpjaaDelK
import Derived.Laws.Rows
namespace Go.Proofs.Ytlomeohcgjgpjaa
open Go Go.Proofs Go.RowKit
set_option maxRecDepth 100000

def lvV (x : LV) (kv : Value) : Value := .agg #[.int .i64 x.id, .int .i64 x.ticks, .int .i64 x.left, kv]
def ShowTo (w w' : World) (x : LV) (e : Ending) : Prop := ∃ kv, e = .returned (lvV x kv) ∧ FreshStr w w' kv x.keys ∧ Fr No w w'
/-- Four cells stored into a result's own block. -/
theorem lv_stored {w X : World} {b : Nat} {a0 a1 a2 a3 : Value} (hk : X.heap[b]? = some (.cells #[a0, a1, a2, a3] 36 (0, 0))) (i t l : Int) (kv : Value) :
    ∃ Z, ((((X.setCell ⟨b, 0, none⟩ (.int .i64 i)).setCell ⟨b, 1, none⟩ (.int .i64 t)).setCell ⟨b, 2, none⟩ (.int .i64 l)).setCell ⟨b, 3, none⟩ kv) = Z ∧ Z.heap[b]? = some (.cells #[.int .i64 i, .int .i64 t, .int .i64 l, kv] 36 (0, 0)) ∧
      (Fr No w X → w.heap.size ≤ b → Fr No w Z) ∧ ∀ {v : Value} {L : List ByteArray}, SlF X 9 1 strC v L → v.ownBlock ≠ some b → SlF Z 9 1 strC v L := by
  have z0 := heap_setCell_same hk 0 (.int .i64 i)
  have z1 := heap_setCell_same z0 1 (.int .i64 t)
  have z2 := heap_setCell_same z1 2 (.int .i64 l)
  have z3 := heap_setCell_same z2 3 kv
  refine ⟨_, rfl, by rw [z3]; simp, fun hf hb => (((hf.setCell (p := ⟨b, 0, none⟩) (.inr hb) _).setCell (p := ⟨b, 1, none⟩) (.inr hb) _).setCell (p := ⟨b, 2, none⟩) (.inr hb) _).setCell (p := ⟨b, 3, none⟩) (.inr hb) _, fun hs hn => ?_⟩
  exact (((hs.other ⟨b, 0, none⟩ _ hn).other ⟨b, 1, none⟩ _ hn).other ⟨b, 2, none⟩ _ hn).other ⟨b, 3, none⟩ _ hn
set_option maxHeartbeats 4000000 in
theorem show_calls {w : World} {t m o : Nat} {qv : Value} {hp : Int → Option Nat} {FL : Int → Nat → Prop} {T : LT} (a : LeaR w t m o qv hp FL T) (id : Int) (p : Nat) (l : Ls) (hl : getL T.L id = some l) (hid : hp id = some p)
    (hk : l.keys.length ≤ 1099511627) (h0 : 0 ≤ T.now) (h1 : T.now ≤ 1099511627776) (h2 : 0 ≤ l.due) (h3 : l.due ≤ 4398046511104) :
    Calls Try.prog 29 #[.pointer (some ⟨t, 0, none⟩), .int .i64 id, .pointer (some ⟨p, 0, none⟩)] w fun e w' => ShowTo w w' (viewL T.now (id, l)) e := by
  obtain ⟨p', hp', kv, hls, hF⟩ := a.ls id l hl
  rw [hid] at hp'
  cases hp'
  have hfa : Fr No w (w.alloc (.cells #[.int .i64 0, .int .i64 0, .int .i64 0, .slice none 0 0] 36)) := (Fr.refl No w).alloc _
  have hra : (w.alloc (.cells #[.int .i64 0, .int .i64 0, .int .i64 0, .slice none 0 0] 36)).heap[w.heap.size]? = some (.cells #[.int .i64 0, .int .i64 0, .int .i64 0, .slice none 0 0] 36 (0, 0)) := alloc_at _ _ _ rfl
  have lt := a.obj.lt
  have lp := hls.obj.lt
  have c2 := hfa.cell0 (a.obj.cell 2 rfl)
  have b0 := hfa.cell0 (hls.obj.cell 0 rfl)
  have b1 := hfa.cell0 (hls.obj.cell 1 rfl)
  have b3 := hfa.cell0 (hls.obj.cell 3 rfl)
  have hks := hls.keys.fr0 hfa
  obtain ⟨va, vc, rfl, _, _, _⟩ := hls.keys.shape
  unfold viewL
  clear a hls hl hid hF
  generalize hW : w.alloc (.cells #[.int .i64 0, .int .i64 0, .int .i64 0, .slice none 0 0] 36) = W at *
  have lr := heap_lt hra
  have HWW := Lib.hid hW
  clear hW
  have lW := hfa.size
  have ltW : t < W.heap.size := Nat.lt_of_lt_of_le lt lW
  have lpW : p < W.heap.size := Nat.lt_of_lt_of_le lp lW
  have cC := fun X (hX : Fr No W X) => clone_calls X _ l.keys (hks.fr0 hX) hk
  have CC := Lib.hid cC
  have HRA := Lib.hid hra
  have HFA := Lib.hid hfa
  clear cC hks hra hfa lW
  have k1 : W.cell? ⟨p, 0, none⟩ = some (.int .i64 l.ticks) ∧ W.cell? ⟨p, 1, none⟩ = some (.int .i64 l.due) ∧ W.cell? ⟨p, 3, none⟩ = some (.slice va l.keys.length vc) ∧ W.cell? ⟨t, 2, none⟩ = some (.int .i64 T.now) := ⟨b0, b1, b3, c2⟩
  have k2 : W.drew.cell? ⟨p, 0, none⟩ = some (.int .i64 l.ticks) ∧ W.drew.cell? ⟨p, 1, none⟩ = some (.int .i64 l.due) ∧ W.drew.cell? ⟨p, 3, none⟩ = some (.slice va l.keys.length vc) ∧ W.drew.cell? ⟨t, 2, none⟩ = some (.int .i64 T.now) := ⟨b0, b1, b3, c2⟩
  have np : ¬ p = w.heap.size := by omega
  have nt : ¬ t = w.heap.size := by omega
  have e1 : IntKind.i64.wrap (l.due - T.now) = l.due - T.now := IntWalk.i64_in _ (by omega)
  go_enter Try.func29, Try.ntmps29
  go_upto_region 1 with fail
  rw [HWW.out]
  clear HWW
  have C1 := Lib.hid (CC.out W (Fr.refl No W))
  have C2 := Lib.hid (CC.out W.drew (Fr.refl No W).drew)
  clear CC
  go_region_held3 (fun X => X.cell? ⟨p, 0, none⟩ = some (.int .i64 l.ticks) ∧ X.cell? ⟨p, 1, none⟩ = some (.int .i64 l.due) ∧ X.cell? ⟨p, 3, none⟩ = some (.slice va l.keys.length vc) ∧ X.cell? ⟨t, 2, none⟩ = some (.int .i64 T.now))
    (first | with_reducible exact k1 | with_reducible exact k2 | with_reducible exact kw | exact ⟨(((((Fr.refl (fun b => b = w.heap.size) w3).setAt 0 _).setAt 1 _).setAt 2 _).setAt 3 _).cell kw.1 np, (((((Fr.refl (fun b => b = w.heap.size) w3).setAt 0 _).setAt 1 _).setAt 2 _).setAt 3 _).cell kw.2.1 np, (((((Fr.refl (fun b => b = w.heap.size) w3).setAt 0 _).setAt 1 _).setAt 2 _).setAt 3 _).cell kw.2.2.1 np, (((((Fr.refl (fun b => b = w.heap.size) w3).setAt 0 _).setAt 1 _).setAt 2 _).setAt 3 _).cell kw.2.2.2 nt⟩)
    (first | (go_at_call 46; first | (with_reducible refine C1.out.mono ?_) | (with_reducible refine C2.out.mono ?_)
              rintro e w3 ⟨kv', rfl, hfs, hf3⟩
              have hf3' : Fr No W w3 := by first | exact hf3 | exact (Fr.refl No W).drew.trans0 hf3
              have hfs' : FreshStr W w3 kv' l.keys := by first | exact hfs | exact ⟨hfs.1, hfs.2⟩
              obtain ⟨ka, kc, rfl, hc1, hc2, hc3⟩ := hfs'.1.shape
              have kw : w3.cell? ⟨p, 0, none⟩ = some (.int .i64 l.ticks) ∧ w3.cell? ⟨p, 1, none⟩ = some (.int .i64 l.due) ∧ w3.cell? ⟨p, 3, none⟩ = some (.slice va l.keys.length vc) ∧ w3.cell? ⟨t, 2, none⟩ = some (.int .i64 T.now) := ⟨hf3'.cell0 b0, hf3'.cell0 b1, hf3'.cell0 b3, hf3'.cell0 c2⟩
              have hz3 := hf3'.heap HRA.out (fun h => h)
              obtain ⟨z0, z1, z2, z3⟩ := cells4 hz3
              have lz := heap_lt hz3
              have zf : ∀ i, w3.frozen? ⟨w.heap.size, i, none⟩ = false := fun i => by simp [World.frozen?, hz3]
              have HZ3 := Lib.hid hz3
              have HF3 := Lib.hid hf3'
              have HFS := Lib.hid hfs'
              clear hf3 hf3' hfs hfs' hz3 hc1 hc2 hc3))
  all_goals
    go_wp2
    obtain ⟨Z, hZ, z4, hfz, hso⟩ := lv_stored (w := w) HZ3.out id l.ticks (max (l.due - T.now) 0) (.slice ka l.keys.length kc)
    rw [hZ]
    have hkn : ∀ b, (Value.slice ka l.keys.length kc).ownBlock = some b → w.heap.size < b := fun b hb => by have := HFS.out.2 b hb; omega
    exact bodyPost_ret (results_cell_row rfl _ _ w.heap.size 36 _ (0, 0) _ rfl z4 Try.underlying36 rfl (by kernel_rfl)) rfl ⟨_, rfl, ⟨hso HFS.out.1 (fun e => by have := hkn _ e; omega), fun b hb => by have := hkn b hb; omega⟩, hfz (HFA.out.trans0 HF3.out) (Nat.le_refl _)⟩
def getRV (w w' : World) (x : Option LV) (e : Ending) : Prop := match x with
  | some x => ∃ kv, e = .returned (.tuple #[lvV x kv, .int .i64 0]) ∧ FreshStr w w' kv x.keys ∧ Fr No w w'
  | none => e = .returned (.tuple #[lvV ⟨0, 0, 0, []⟩ (.slice none 0 0), .int .i64 35]) ∧ Fr No w w'
theorem show_at {n : Nat} (hn : n ≤ 1000) {w : World} {t m o : Nat} {qv : Value} {hp : Int → Option Nat} {FL : Int → Nat → Prop} {T : LT} (a : LeaR w t m o qv hp FL T) (hT : TOk n T) (id : Int) (p : Nat) (l : Ls) (hl : getL T.L id = some l) (hid : hp id = some p) :
    Calls Try.prog 29 #[.pointer (some ⟨t, 0, none⟩), .int .i64 id, .pointer (some ⟨p, 0, none⟩)] w fun e w' => ShowTo w w' (viewL T.now (id, l)) e := by
  have hm := getL_mem hl
  have hnum := hT.num _ hm
  have hd := hT.due0 _ hm
  have hk := (hT.ok.klen (viewL T.now (id, l)) (List.mem_map_of_mem hm)).1
  have h0 := hT.now0
  have h1 := hT.now1
  unfold viewL at hk
  dsimp only at hnum hd hk
  unfold maxT at hnum h1
  exact show_calls a id p l hl hid (by omega) h0 (by omega) hd (by omega)
theorem Get_nil (w : World) (id : Int) : Calls Try.prog 16 #[.pointer none, .int .i64 id] w fun e w' => e = .returned (.tuple #[lvV ⟨0, 0, 0, []⟩ (.slice none 0 0), .int .i64 2]) ∧ Fr No w w' := by
  have hfa : Fr No w (w.alloc (.cells #[.int .i64 0, .int .i64 0, .int .i64 0, .slice none 0 0] 36)) := (Fr.refl No w).alloc _
  have hf := fun W => find_nil W id
  go_enter Try.func16, Try.ntmps16
  go_wp2_with (go_at_call 36; (with_reducible refine (hf _).mono ?_); rintro e w' ⟨rfl, rfl⟩)
  have hz : (w.alloc (.cells #[.int .i64 0, .int .i64 0, .int .i64 0, .slice none 0 0] 36)).heap[w.heap.size]? = some (.cells #[.int .i64 0, .int .i64 0, .int .i64 0, .slice none 0 0] 36 (0, 0)) := alloc_at _ _ _ rfl
  obtain ⟨z0, z1, z2, z3⟩ := cells4 hz
  have lz := heap_lt hz
  clear hz
  generalize w.alloc (.cells #[.int .i64 0, .int .i64 0, .int .i64 0, .slice none 0 0] 36) = Z at *
  exact bodyPost_ret (v := .tuple #[lvV ⟨0, 0, 0, []⟩ (.slice none 0 0), .int .i64 2]) (w := Z) (by rw [results_cell_tmp rfl]; go_simp; rfl) rfl ⟨rfl, hfa⟩
set_option maxHeartbeats 4000000 in
theorem Get_calls {n : Nat} (hn : n ≤ 1000) {w : World} {t : Nat} {R : List LV} {F : Nat → Prop} (h : Lea n w t R F) (id : Int) (hwf : (Lit.int .i64 id).wf = true) :
    Calls Try.prog 16 #[.pointer (some ⟨t, 0, none⟩), .int .i64 id] w fun e w' => getRV w w' (getR R id) e := by
  obtain ⟨T, ⟨m, o, qv, hp, FL, a, hF⟩, hT, rfl⟩ := h
  rw [getR_T]
  have hfa : Fr No w (w.alloc (.cells #[.int .i64 0, .int .i64 0, .int .i64 0, .slice none 0 0] 36)) := (Fr.refl No w).alloc _
  have hra : (w.alloc (.cells #[.int .i64 0, .int .i64 0, .int .i64 0, .slice none 0 0] 36)).heap[w.heap.size]? = some (.cells #[.int .i64 0, .int .i64 0, .int .i64 0, .slice none 0 0] 36 (0, 0)) := alloc_at _ _ _ rfl
  have aW := a.fr hfa fun _ _ h => h
  have hfc := find_calls aW id hwf
  cases hl : getL T.L id with
  | none =>
    have hg := (a.gone id hl).1
    rw [hg] at hfc
    have HFC := Lib.hid hfc
    unfold findV ptrO at HFC
    clear hfc aW a hF hl hg hT
    go_enter Try.func16, Try.ntmps16
    go_wp2_with (go_at_call 36; (with_reducible refine HFC.out.mono ?_); rintro e w' ⟨rfl, rfl⟩; dsimp only [Option.map_none, Option.isSome_none])
    obtain ⟨z0, z1, z2, z3⟩ := cells4 hra
    have lz := heap_lt hra
    clear hra HFC
    generalize w.alloc (.cells #[.int .i64 0, .int .i64 0, .int .i64 0, .slice none 0 0] 36) = Z at *
    exact bodyPost_ret (v := .tuple #[lvV ⟨0, 0, 0, []⟩ (.slice none 0 0), .int .i64 35]) (w := Z) (by rw [results_cell_tmp rfl]; go_simp; rfl) rfl ⟨rfl, hfa⟩
  | some l =>
    have hv : (some l).map (fun l => viewL T.now (id, l)) = some (viewL T.now (id, l)) := rfl
    rw [hv]
    clear hv
    obtain ⟨p, hpp, _⟩ := a.ls id l hl
    rw [hpp] at hfc
    have hsh := show_at hn aW hT id p l hl hpp
    have HFC := Lib.hid hfc
    have HSH := Lib.hid hsh
    unfold findV ptrO at HFC
    have HRA := Lib.hid hra
    have HFA := Lib.hid hfa
    obtain ⟨z0, z1, z2, z3⟩ := cells4 hra
    have lz := heap_lt hra
    clear hfc hsh aW a hF hl hpp hT hra hfa
    go_enter Try.func16, Try.ntmps16
    go_wp2_with (first
      | (go_at_call 36; (with_reducible refine HFC.out.mono ?_); rintro e w' ⟨rfl, rfl⟩; dsimp only [Option.map_some, Option.isSome_some])
      | (go_at_call 29; (with_reducible refine HSH.out.mono ?_); rintro e w3 ⟨kv, rfl, hfs, hf3⟩
         obtain ⟨ka, kc, rfl, hc1, hc2, hc3⟩ := hfs.1.shape
         have hz3 := hf3.heap HRA.out (fun h => h)
         obtain ⟨z0, z1, z2, z3⟩ := cells4 hz3
         have lz3 := heap_lt hz3
         have zf : ∀ i, w3.frozen? ⟨w.heap.size, i, none⟩ = false := fun i => by simp [World.frozen?, hz3]
         have HZ3 := Lib.hid hz3
         have HF3 := Lib.hid hf3
         have HFS := Lib.hid hfs
         unfold lvV
         clear hf3 hfs hz3 hc1 hc2 hc3))
    obtain ⟨Z, hZ, z4, hfz, hso⟩ := lv_stored (w := w) HZ3.out (viewL T.now (id, l)).id (viewL T.now (id, l)).ticks (viewL T.now (id, l)).left (.slice ka (viewL T.now (id, l)).keys.length kc)
    rw [hZ]
    have hkn : ∀ b, (Value.slice ka (viewL T.now (id, l)).keys.length kc).ownBlock = some b → w.heap.size < b := fun b hb => by
      have h := HFS.out.2 b hb
      simp at h
      omega
    have hfin := hfz (HFA.out.trans0 HF3.out) (Nat.le_refl _)
    have hst : FreshStr w Z (.slice ka (viewL T.now (id, l)).keys.length kc) (viewL T.now (id, l)).keys := ⟨hso HFS.out.1 (fun e => by have := hkn _ e; omega), fun b hb => by have := hkn b hb; omega⟩
    have HFIN := Lib.hid hfin
    have HST := Lib.hid hst
    obtain ⟨y0, y1, y2, y3⟩ := cells4 z4
    have lZ := heap_lt z4
    clear hfin hst hfz hso hkn z0 z1 z2 z3 zf z4 hZ HF3 HFS HZ3 HFA HRA
    generalize viewL T.now (id, l) = x at *
    exact bodyPost_ret (v := .tuple #[lvV x (.slice ka x.keys.length kc), .int .i64 0]) (w := Z) (by rw [results_cell_tmp rfl]; go_simp; rfl) rfl ⟨_, rfl, HST.out, HFIN.out⟩
end Go.Proofs.Ytlomeohcgjgpjaa
