/- container/heap's Push and Pop over the queue: a heap of one more, or of one fewer. The condition: the queue lies in the table's cell. -/
import Derived.Test.YtlomeohcgjgpjaaLeaK
namespace Go.Proofs.Ytlomeohcgjgpjaa
open Go Go.Proofs Go.RowKit
set_option maxRecDepth 100000

def HeapOut (w w' : World) (t : Nat) (a0 a1 a2 qv : Value) (S : List Ent → Prop) : Prop := ∃ q', QOut w w' t a0 a1 a2 qv q' ∧ HeapOk q' ∧ S q'
set_option maxHeartbeats 1000000 in
theorem heapPush_calls (w : World) (t : Nat) (a0 a1 a2 qv : Value) (q : List Ent) (H : QAt w t a0 a1 a2 qv q) (hl : q.length < 1099511627) (hh : HeapOk q) (d i : Int) :
    Calls Try.prog 66 #[.iface 84 (.pointer (some ⟨t, 3, none⟩)), .iface 82 (.agg #[.int .i64 d, .int .i64 i])] w fun e w' => e = .returned (.tuple #[]) ∧ HeapOut w w' t a0 a1 a2 qv fun q' => q'.Perm (q ++ [(d, i)]) := by
  have hmP := mPush w t
  have e117 := e117
  have e113 := e113
  have cP := qPush_calls w t a0 a1 a2 qv q H (by omega) d i
  have CP := Lib.hid cP
  have HH := Lib.hid hh
  clear cP H hh
  go_enter Try.func66, Try.ntmps66
  go_upto_region 1 with (go_at_call 117; (with_reducible refine CP.out.mono ?_); rintro e w1 ⟨rfl, hq1⟩; have HQ1 := Lib.hid hq1; clear hq1)
  obtain ⟨qv1, hq1, hf1, hn1⟩ := HQ1.out
  obtain ⟨a, cap, hv, h1, h2, h3⟩ := hq1.sl.shape
  subst hv
  have hlen : (q ++ [(d, i)]).length = q.length + 1 := by simp
  have hmL := mLen w1 t _ (hq1.obj.cell 3 rfl)
  have cU := up_calls w1 t a0 a1 a2 _ (q ++ [(d, i)]) hq1 (by rw [hlen]; omega) q.length (by rw [hlen]; omega) (UpInv.start HH.out (d, i))
  rw [hlen] at hmL cU
  have CU := Lib.hid cU
  have HF1 := Lib.hid hf1
  have HN1 := Lib.hid hn1
  unfold maxLen at h2
  clear cU hq1 hf1 hn1 h3
  go_wp2_with (first
    | (go_at_call 113; (with_reducible refine (qLen_calls _ _ _ _).mono ?_); rintro e w2 ⟨rfl, rfl⟩)
    | (go_at_call 86; (with_reducible refine CU.out.mono ?_); rintro e w2 ⟨rfl, hu⟩; have HU := Lib.hid hu; clear hu))
  refine bodyPost_end (results_none rfl _ _ _) rfl ?_
  obtain ⟨q', u1, u2, u3, u4⟩ := HU.out
  rw [← hlen] at u1
  exact ⟨rfl, q', QOut.trans HF1.out HN1.out ⟨_, u1, by rw [← hlen] at u4; exact u4.mono fun _ _ h => .inr h, fun _ h => .inl h⟩, u3, u2⟩
set_option maxHeartbeats 1000000 in
theorem heapPop_calls (w : World) (t : Nat) (a0 a1 a2 qv : Value) (q : List Ent) (H : QAt w t a0 a1 a2 qv q) (hl : q.length ≤ 1099511627) (hh : HeapOk q) (x : Ent) (hx : q[0]? = some x) :
    Calls Try.prog 37 #[.iface 84 (.pointer (some ⟨t, 3, none⟩))] w fun e w' => e = .returned (.iface 82 (.agg #[.int .i64 x.1, .int .i64 x.2])) ∧ HeapOut w w' t a0 a1 a2 qv fun q' => q.Perm (x :: q') := by
  have hl0 := (List.getElem?_eq_some_iff.1 hx).1
  obtain ⟨n, hn⟩ : ∃ n, q.length = n + 1 := ⟨q.length - 1, by omega⟩
  obtain ⟨a, cap, hv, h1, h2, h3⟩ := H.sl.shape
  subst hv
  have c3 := H.obj.cell 3 rfl
  have hmL := mLen w t _ c3
  have hmS := mSwap w t _ c3
  have e116 := e116
  have e115 := e115
  have e113 := e113
  have cS := swapA H hl 0 n 0 n rfl rfl (by omega) (by omega)
  have hd0 := DownInv.start hh hn
  have hpp := pop_perm (p := swp q 0 n) hn (List.Perm.refl _) hx
  rw [hn] at hmL hmS cS h1
  have CS := Lib.hid cS
  have HD := Lib.hid hd0
  have HN := Lib.hid hn
  have HX := Lib.hid hx
  unfold maxLen at h2
  clear cS hd0 H hh h3 hpp hx c3
  have hn9 : n < 1099511627 := by omega
  clear hn
  go_enter Try.func37, Try.ntmps37
  go_upto_region 3 with (first
    | (go_at_call 113; (with_reducible refine (qLen_calls _ _ _ _).mono ?_); rintro e w2 ⟨rfl, rfl⟩)
    | (go_at_call 115; (with_reducible refine CS.out.mono ?_); rintro e w1 ⟨rfl, hq1, hf1⟩; have HQ1 := Lib.hid hq1; have HF1 := Lib.hid hf1; clear hq1 hf1))
  have hs1 : (swp q 0 n).length = n + 1 := by rw [swp_length]; exact HN.out
  have cD := down_calls w1 t a0 a1 a2 _ (swp q 0 n) HQ1.out (by omega) n (by omega) HD.out
  have CD := Lib.hid cD
  clear cD
  go_upto_region 4 with (go_at_call 54; (with_reducible refine CD.out.mono ?_); rintro e w2 ⟨⟨b, rfl⟩, hd⟩; have HD2 := Lib.hid hd; clear hd)
  obtain ⟨p, p1, p2, p3, p4, p5⟩ := HD2.out
  have hpl : p.length = n + 1 := by rw [p2.length_eq, hs1]
  have hpn : p[n]? = some x := by
    rw [p4, swp_get (by have := HN.out; omega) (by have := HN.out; omega), if_pos rfl]; exact HX.out
  have cP := qPop_calls w2 t a0 a1 a2 _ p p1 (by omega) n hpl x hpn
  have hmP := mPop w2 t
  have CP := Lib.hid cP
  have HP2 := Lib.hid p2
  have HP3 := Lib.hid p3
  have HP5 := Lib.hid p5
  have HPN := Lib.hid hpn
  clear cP p1 p2 p3 p4 p5 hpl hpn hmL hmS hs1
  go_wp2_with (go_at_call 116; (with_reducible refine CP.out.mono ?_); rintro e w3 ⟨rfl, hq3⟩; have HQ3 := Lib.hid hq3; clear hq3)
  go_ret
  have hf : Fr (fun b => b = t ∨ (Value.slice a (n + 1) cap).ownBlock = some b) w w2 := (HF1.out.trans HP5.out fun _ _ h => h).mono fun _ _ h => .inr h
  rw [HN.out]
  exact ⟨rfl, p.take n, QOut.trans hf (fun _ h => .inl h) HQ3.out, HP3.out, pop_perm HN.out HP2.out HX.out HPN.out⟩
end Go.Proofs.Ytlomeohcgjgpjaa
