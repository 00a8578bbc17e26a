/- The table's begin: a lease lasts from now on, its end is laid into the heap. The condition: the table lies in memory; the clock is small. -/
import Derived.Test.YtlomeohcgjgpjaaLeaO
namespace Go.Proofs.Ytlomeohcgjgpjaa
open Go Go.Proofs Go.RowKit
set_option maxRecDepth 100000

def begF (now : Int) (l : Ls) : Ls := { l with due := now + l.ticks, told := false }
/-- Behind begin. -/
def BegOut (w w' : World) (t m o : Nat) (qv : Value) (hp : Int → Option Nat) (FL : Int → Nat → Prop) (T : LT) (id : Int) (l : Ls) : Prop :=
  ∃ qv' q' FL', LeaR w' t m o qv' hp FL' ⟨setL T.L id (begF T.now), T.now, q'⟩ ∧ HeapOk q' ∧ q'.Perm (T.q ++ [(T.now + l.ticks, id)]) ∧ Fr (leaF t m o qv FL) w w' ∧ ∀ b, leaF t m o qv' FL' b → leaF t m o qv FL b ∨ w.heap.size ≤ b
theorem LeaR.qat {w : World} {t m o : Nat} {qv : Value} {hp : Int → Option Nat} {FL : Int → Nat → Prop} {T : LT} (a : LeaR w t m o qv hp FL T) : QAt w t (.map (some m)) (.map (some o)) (.int .i64 T.now) qv T.q := ⟨a.obj, a.q, a.dt.1⟩
theorem LsAt.kept {w w' : World} {b : Nat} {l l' : Ls} {F : Nat → Prop} (a : LsAt w b l F) (hf : Fr (fun x => x = b) w w') (hk : l'.keys = l.keys) (ho : ∀ kv, Has w b [.int .i64 l.ticks, .int .i64 l.due, .bool l.told, kv] → Has w' b [.int .i64 l'.ticks, .int .i64 l'.due, .bool l'.told, kv]) : LsAt w' b l' F := by
  obtain ⟨kv, a, hF⟩ := a
  exact ⟨kv, ⟨ho kv a.obj, by rw [hk]; exact a.keys.fr hf fun k hk e => a.d (by rw [hk, show k = b from e]), a.d⟩, hF⟩
theorem LsAt.own {w : World} {b : Nat} {l : Ls} {F : Nat → Prop} (a : LsAt w b l F) : F b := by
  obtain ⟨kv, _, hF⟩ := a
  exact (hF b).2 (.inl rfl)
/-- A lease's own cells changed (not its keys). -/
theorem LeaR.cells {w w' : World} {t m o : Nat} {qv : Value} {hp : Int → Option Nat} {FL : Int → Nat → Prop} {T : LT} (a : LeaR w t m o qv hp FL T) {id : Int} {p : Nat} {l : Ls} {f : Ls → Ls} (hl : getL T.L id = some l) (hid : hp id = some p)
    (hfk : ∀ l, (f l).keys = l.keys) (hf : Fr (fun x => x = p) w w') (ho : ∀ kv, Has w p [.int .i64 l.ticks, .int .i64 l.due, .bool l.told, kv] → Has w' p [.int .i64 (f l).ticks, .int .i64 (f l).due, .bool (f l).told, kv]) :
    LeaR w' t m o qv hp FL ⟨setL T.L id f, T.now, T.q⟩ := by
  obtain ⟨p', hp', hls⟩ := a.ls id l hl
  rw [hid] at hp'
  cases hp'
  have hfl : Fr (FL id) w w' := hf.mono fun k _ e => by rw [show k = p from e]; exact hls.own
  have hmap : MapS w' o fun k => (ofL (setL T.L id f) k).map (Value.int .i64) := by
    refine cast (congrArg (MapS w' o) (funext fun k => ?_)) (a.of.fr hfl (a.do'.2 id))
    rw [ofL_set hfk]
  have := a.setLs hl hid (hfl.mono fun _ _ h => .inr h) (hls.kept hf (hfk l) ho) (fun b hb => .inl hb) hmap
  have hfe : (fun i => if i = id then FL id else FL i) = FL := by
    funext i
    by_cases e : i = id
    · rw [if_pos e, e]
    · rw [if_neg e]
  rw [hfe] at this
  exact this
set_option maxHeartbeats 1000000 in
theorem begin_calls {w : World} {t m o : Nat} {qv : Value} {hp : Int → Option Nat} {FL : Int → Nat → Prop} {T : LT} (a : LeaR w t m o qv hp FL T) (id : Int) (p : Nat) (l : Ls) (hl : getL T.L id = some l) (hid : hp id = some p)
    (hh : HeapOk T.q) (hq : T.q.length < 1099511627) (h0 : 0 ≤ T.now) (h1 : T.now ≤ 1099511627776) (h2 : 0 ≤ l.ticks) (h3 : l.ticks ≤ 1099511627776) :
    Calls Try.prog 49 #[.pointer (some ⟨t, 0, none⟩), .int .i64 id, .pointer (some ⟨p, 0, none⟩)] w fun e w' => e = .returned (.tuple #[]) ∧ BegOut w w' t m o qv hp FL T id l := by
  obtain ⟨p', hp', hls⟩ := a.ls id l hl
  rw [hid] at hp'
  cases hp'
  have hown : FL id p := hls.own
  obtain ⟨kv, hls, hF⟩ := hls
  have c2 := a.obj.cell 2 rfl
  have lt := a.obj.lt
  have b0 := hls.obj.cell 0 rfl
  have b1 := hls.obj.cell 1 rfl
  have b2 := hls.obj.cell 2 rfl
  have fz := hls.obj.free
  have lp := hls.obj.lt
  have hs : T.now + l.ticks ≤ 2199023255552 := by omega
  have hs0 : 0 ≤ T.now + l.ticks := by omega
  have npt : ¬ p = t := fun e => a.dt.2 id (e ▸ hown)
  have hf1 : Fr (fun x => x = p) w ((w.setCell ⟨p, 1, none⟩ (.int .i64 (T.now + l.ticks))).setCell ⟨p, 2, none⟩ (.bool false)) := ((Fr.refl (fun x => x = p) w).setAt 1 _).setAt 2 _
  have hA := a.cells (f := begF T.now) hl hid (fun _ => rfl) hf1 (fun kv h => (h.set 1 (.int .i64 (T.now + l.ticks))).set 2 (.bool false))
  have HA := Lib.hid hA
  have HF1 := Lib.hid hf1
  have HOWN := Lib.hid hown
  have HB0 : Hid (((w.setCell ⟨p, 1, none⟩ (.int .i64 (T.now + l.ticks))).setCell ⟨p, 2, none⟩ (.bool false)).cell? ⟨p, 1, none⟩ = some (.int .i64 (T.now + l.ticks))) := Lib.hid (((hls.obj.set 1 (.int .i64 (T.now + l.ticks))).set 2 (.bool false)).cell 1 rfl)
  have HH := Lib.hid hh
  clear a hl hid hls hA hf1 hF hh hown
  go_enter Try.func49, Try.ntmps49
  go_wp2_with fail
  go_region
  go_wp2_with fail
  have hW0 : Fr No ((w.setCell ⟨p, 1, none⟩ (.int .i64 (T.now + l.ticks))).setCell ⟨p, 2, none⟩ (.bool false)) (((w.setCell ⟨p, 1, none⟩ (.int .i64 (T.now + l.ticks))).setCell ⟨p, 2, none⟩ (.bool false)).drew) := (Fr.refl No _).drew
  have hwA := HA.out.fr hW0 fun _ _ h => h
  have hfA := HF1.out.trans0 hW0
  have hbA := hW0.cell0 HB0.out
  generalize ((w.setCell ⟨p, 1, none⟩ (.int .i64 (T.now + l.ticks))).setCell ⟨p, 2, none⟩ (.bool false)).drew = W at *
  have lpW : p < W.heap.size := Nat.lt_of_lt_of_le lp hfA.size
  have ltW : t < W.heap.size := Nat.lt_of_lt_of_le lt hfA.size
  have cH := heapPush_calls W.drew t _ _ _ _ _ (hwA.qat.fr0 (Fr.refl No W).drew) hq HH.out (T.now + l.ticks) id
  have CH := Lib.hid cH
  have HWA := Lib.hid hwA
  have HFA := Lib.hid hfA
  clear cH hwA hfA hW0 c2 b0 b1 b2 fz HA HF1 HB0
  refine wp_region_still_tail 11 (by kernel_rfl) (by kernel_rfl) ?_
  simp only [List.take_succ_cons, List.take_zero, List.drop_succ_cons, List.drop_zero]
  change wpStill _ _ W.drew _ _ _
  repeat (refine wpStill_step (fun K hK => ?_); go_simp; refine hK _ ?_; clear hK K)
  refine wpStill_nil ?_
  change wpList _ _ _ _ _ W.drew
  go_wp2_with (go_at_call 66; (with_reducible refine CH.out.mono ?_); rintro e w2 ⟨rfl, hp2⟩; have HP2 := Lib.hid hp2; clear hp2)
  refine bodyPost_end (results_none rfl _ _ _) rfl ?_
  obtain ⟨q', ⟨qv', g1, g2, g3⟩, g4, g5⟩ := HP2.out
  have ha2 := HWA.out.fr (Fr.refl No W).drew fun _ _ h => h
  have hset := ha2.setQ g2 g1.obj g1.sl g3
  refine ⟨rfl, qv', q', FL, hset, g4, g5, ?_, ?_⟩
  · have hx : Fr (leaF t m o qv FL) W.drew w2 := g2.mono fun b _ h => by
      rcases h with h | h
      · exact .inl h
      · exact .inr (.inr (.inr (.inl h)))
    refine ((HFA.out.mono fun b _ e => ?_).trans0 (Fr.refl No W).drew).trans hx fun _ _ h => h
    rw [show b = p from e]
    exact .inr (.inr (.inr (.inr ⟨id, HOWN.out⟩)))
  · intro b hb
    rcases hb with h | h | h | h | h
    · exact .inl (.inl h)
    · exact .inl (.inr (.inl h))
    · exact .inl (.inr (.inr (.inl h)))
    · rcases g3 b h with h | h
      · exact .inl (.inr (.inr (.inr (.inl h))))
      · right
        have h1 : W.heap.size ≤ b := h
        have := HFA.out.size
        omega
    · exact .inl (.inr (.inr (.inr (.inr h))))
end Go.Proofs.Ytlomeohcgjgpjaa
