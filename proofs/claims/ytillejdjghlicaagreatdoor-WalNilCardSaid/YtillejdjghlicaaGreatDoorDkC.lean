/- A disk of segments in memory: Crash, as the plain disk does it. No condition but DkM's. -/
import Derived.Test.YtillejdjghlicaaGreatDoorDkM
import Derived.Test.YtillejdjghlicaaGreatDoorAppK
import Derived.Test.YtillejdjghlicaaGreatDoorRead
namespace Go.Proofs.YtillejdjghlicaaGreatDoor
open Go Go.Proofs Go.RowKit Go.WideElems Go.ChangeMaps Go.WideMaps
set_option maxRecDepth 100000

/-- How many of the bytes that are not synced stay. -/
def keepN (f : Fi) (k : Int) : Nat := (min (max k 0) ((f.data.length - f.syn : Nat) : Int)).toNat
/-- What stays of one file; the keeps that are left. -/
def crash1 (f : Fi) (ks : List Int) : Fi × List Int :=
  if f.data.length = f.syn then (f, ks)
  else match ks with
    | [] => (⟨f.num, f.data.take f.syn, f.syn⟩, [])
    | k :: ks => (⟨f.num, f.data.take (f.syn + keepN f k), f.syn + keepN f k⟩, ks)
theorem crashF_cons (f : Fi) (l : List Fi) (ks : List Int) : crashF (f :: l) ks = (crash1 f ks).1 :: crashF l (crash1 f ks).2 := by
  unfold crash1
  by_cases h : f.data.length = f.syn
  · rw [if_pos h, crashF_same h]
  · rw [if_neg h]
    cases ks with
    | nil => conv => lhs; unfold crashF
             rw [if_neg h]
    | cons k ks =>
      conv => lhs; unfold crashF
      rw [if_neg h]
      rfl
theorem crash1_num (f : Fi) (ks : List Int) : (crash1 f ks).1.num = f.num := by
  unfold crash1
  split
  · rfl
  · split <;> rfl
theorem keepN_le (f : Fi) (k : Int) : keepN f k ≤ f.data.length - f.syn := by
  unfold keepN
  omega
theorem crash1_len (f : Fi) (ks : List Int) (h : f.syn ≤ f.data.length) : (crash1 f ks).1.syn ≤ (crash1 f ks).1.data.length ∧ (crash1 f ks).1.data.length ≤ f.data.length := by
  unfold crash1
  split
  · exact ⟨h, Nat.le_refl _⟩
  · split
    · dsimp only
      rw [List.length_take]
      omega
    · rename_i k ks
      have := keepN_le f k
      dsimp only
      rw [List.length_take]
      omega
/-- Behind some files: what stands there, what is to come. -/
structure CrI (D : Dk) (ks : List Int) (P rest : List Fi) (ks' : List Int) : Prop where
  eq : crashF D.fs ks = P ++ crashF rest ks'
  ok : FsOk (P ++ rest)
  nums : (P ++ rest).map (·.num) = D.fs.map (·.num)
  sz : sizeF (P ++ rest) ≤ D.lim
theorem CrI.start {D : Dk} (h : FsOk D.fs) (hs : sizeF D.fs ≤ D.lim) (ks : List Int) : CrI D ks [] D.fs ks := ⟨rfl, h, rfl, hs⟩
theorem mem_mid {α : Type} {P R : List α} {f g x : α} (h : x ∈ P ++ g :: R) : x = g ∨ x ∈ P ++ f :: R := by
  rcases List.mem_append.1 h with h | h
  · exact .inr (List.mem_append_left _ h)
  · rcases List.mem_cons.1 h with h | h
    · exact .inl h
    · exact .inr (List.mem_append_right _ (List.mem_cons_of_mem _ h))
theorem CrI.step {D : Dk} {ks : List Int} {P : List Fi} {f : Fi} {rest : List Fi} {ks' : List Int} (h : CrI D ks P (f :: rest) ks') :
    CrI D ks (P ++ [(crash1 f ks').1]) rest (crash1 f ks').2 ∧ fOf (P ++ (crash1 f ks').1 :: rest) = setD (fOf (P ++ f :: rest)) (segB f.num) (toB (crash1 f ks').1.data, ((crash1 f ks').1.syn : Int)) := by
  have hn := crash1_num f ks'
  have hl := crash1_len f ks' (h.ok.syn f (List.mem_append_right _ (List.mem_cons_self ..)))
  have heq := h.eq
  rw [crashF_cons] at heq
  generalize (crash1 f ks').1 = f' at *
  generalize (crash1 f ks').2 = ks2 at *
  have hasc := h.ok.asc
  have hput : putF (P ++ f :: rest) f' = P ++ f' :: rest := by
    rw [putF_end (fun g hg => by
      rw [hn]
      exact (List.pairwise_append.1 hasc).2.2 g hg f (List.mem_cons_self ..))]
    congr 1
    unfold putF
    rw [if_neg (by omega), if_pos hn.symm]
  have hok : FsOk (P ++ f' :: rest) := by
    rw [← hput]
    exact h.ok.put (by rw [hn]; exact h.ok.rg f (List.mem_append_right _ (List.mem_cons_self ..))) hl.1
  refine ⟨⟨by rw [heq, List.append_assoc]; rfl, by rw [List.append_assoc]; exact hok, ?_, ?_⟩, ?_⟩
  · rw [← h.nums]
    simp [hn]
  · have hs := h.sz
    rw [List.append_assoc]
    show sizeF (P ++ f' :: rest) ≤ _
    rw [sizeF_append] at hs ⊢
    have e1 : sizeF (f :: rest) = f.data.length + sizeF rest := rfl
    have e2 : sizeF (f' :: rest) = f'.data.length + sizeF rest := rfl
    omega
  · have := fOf_put (P ++ f :: rest) f'
    rw [hput, hn] at this
    exact this
theorem CrI.get {D : Dk} {ks : List Int} {P : List Fi} {f : Fi} {rest : List Fi} {ks' : List Int} (h : CrI D ks P (f :: rest) ks') : getF (P ++ f :: rest) f.num = some f := h.ok.get (List.mem_append_right _ (List.mem_cons_self ..))
theorem CrI.name {D : Dk} {ks : List Int} {P : List Fi} {f : Fi} {rest : List Fi} {ks' : List Int} (h : CrI D ks P (f :: rest) ks') : (D.fs.map fun g => segB g.num)[P.length]? = some (segB f.num) := by
  have e : (D.fs.map fun g => segB g.num) = (D.fs.map (·.num)).map segB := by rw [List.map_map]; rfl
  rw [e, ← h.nums, List.map_append, List.map_append, List.getElem?_append_right (by rw [List.length_map, List.length_map]; exact Nat.le_refl _)]
  simp
theorem CrI.len {D : Dk} {ks : List Int} {P rest : List Fi} {ks' : List Int} (h : CrI D ks P rest ks') : P.length + rest.length = D.fs.length := by
  have := congrArg List.length h.nums
  simpa using this
theorem crash1_same {f : Fi} {ks : List Int} (h : f.data.length = f.syn) : crash1 f ks = (f, ks) := by
  unfold crash1
  rw [if_pos h]
theorem crash1_nil {f : Fi} (h : f.data.length ≠ f.syn) : crash1 f [] = (⟨f.num, f.data.take f.syn, f.syn⟩, []) := by
  unfold crash1
  rw [if_neg h]
theorem crash1_cons {f : Fi} {k : Int} {ks : List Int} (h : f.data.length ≠ f.syn) : crash1 f (k :: ks) = (⟨f.num, f.data.take (f.syn + keepN f k), f.syn + keepN f k⟩, ks) := by
  unfold crash1
  rw [if_neg h]
set_option maxHeartbeats 8000000 in
theorem crash_calls {w : World} {d m : Nat} {D : Dk} (a : DkM w d m D) (v : Value) (ks : List Int) (hv : SlR w 1 int1 v ks) (hvd : ∀ k, v.ownBlock = some k → k ≠ d ∧ k ≠ m) :
    Calls Tryz.prog 20 #[.pointer (some ⟨d, 0, none⟩), v] w fun e w' => e = .returned (.int .i64 0) ∧ DkM w' d m ⟨crashF D.fs ks, D.lim, 0, false⟩ ∧ Fr (DM d m) w w' := by
  have hK := sortedD_calls a.mem (a.ok.names (by have := a.ok.len; omega))
  have c0 : w.cell? ⟨d, 0, none⟩ = some (.map (some m)) := cellAt a.mem.obj 0 rfl
  have ld := heap_lt a.mem.obj
  have hlen : (D.fs.map fun g => segB g.num).length = D.fs.length := List.length_map ..
  have HK := Lib.hid hK
  have A := Lib.hid a
  have HV := Lib.hid hv
  have HVD := Lib.hid hvd
  have HST := Lib.hid (CrI.start a.ok a.sz ks)
  have HLM := Lib.hid a.mem.map.lt
  have HLL := Lib.hid a.ok.len
  clear hK a hv hvd
  generalize hnm : (D.fs.map fun g => segB g.num) = nm at *
  have HNM := Lib.hid hnm
  clear hnm
  go_enter Tryz.func20, Tryz.ntmps20
  go_upto_region 4 with (first
    | (go_at_call 36; (with_reducible refine (keysK_calls _ _).mono ?_); rintro e w1 ⟨rfl, rfl⟩)
    | (go_at_call 35; (with_reducible refine HK.out.mono ?_); rintro e w2 ⟨vn, rfl, hs2, hf2, hn2⟩; obtain ⟨an, cn, rfl, hcn, hcm, hgn⟩ := hs2.shape))
  have HS2 := Lib.hid hs2
  have HN2 := Lib.hid hn2
  have HF2 := Lib.hid hf2
  clear hs2 hn2 hf2
  go_loopg [1, 19] D.fs.length (fun g s1 s19 wr => ∃ (P rest : List Fi) (ks' : List Int), s19 = .int .i64 P.length ∧ g = rest.length ∧ Hid (CrI D ks P rest ks') ∧ Hid (SlR wr 1 int1 s1 ks') ∧ Hid (∀ k, s1.ownBlock = some k → k ≠ d ∧ k ≠ m) ∧ Hid (DkAt wr d m (fOf (P ++ rest)) D.lim D.armed D.dead) ∧ Hid (SlF wr 9 1 strB (.slice an nm.length cn) nm) ∧ Hid (Fr (DM d m) w wr))
  case atStart => exact ⟨[], D.fs, ks, rfl, rfl, HST, Lib.hid (HV.out.fr0 HF2.out), HVD, Lib.hid (A.out.mem.fr0 HF2.out), HS2, Lib.hid (HF2.out.mono fun _ _ h => h.elim)⟩
  case round =>
    obtain ⟨P, rest, ks', rfl, rfl, HI, HSK, HOW, HD, HSN, HF⟩ := hrel
    have hlenI := HI.out.len
    cases rest with
    | nil =>
      have hP : P.length = D.fs.length := by simpa using hlenI
      have hPI : ¬ ((P.length : Int) < (nm.length : Int)) := by omega
      have HE : Hid (crashF D.fs ks = P) := Lib.hid (by rw [HI.out.eq]; exact List.append_nil P)
      have HOK : Hid (FsOk P ∧ sizeF P ≤ D.lim) := Lib.hid ⟨by have := HI.out.ok; rwa [List.append_nil] at this, by have := HI.out.sz; rwa [List.append_nil] at this⟩
      rw [List.append_nil] at HD
      have dd := HD.out
      have f2 : ∀ j, wr.frozen? ⟨d, j, none⟩ = false := fun j => by unfold World.frozen?; rw [dd.obj]; simp
      have c2 : wr.cell? ⟨d, 2, none⟩ = some (.int .i64 D.armed) := cellAt dd.obj 2 rfl
      have c3 : wr.cell? ⟨d, 3, none⟩ = some (.bool D.dead) := cellAt dd.obj 3 rfl
      have ldr := heap_lt dd.obj
      have hob : ((wr.setCell ⟨d, 3, none⟩ (.bool false)).setCell ⟨d, 2, none⟩ (.int .i64 0)).heap[d]? = some (.cells #[.map (some m), .int .i64 D.lim, .int .i64 0, .bool false] 47 (0, 0)) := by
        rw [heap_setCell_same (heap_setCell_same dd.obj 3 _) 2 _]
        rfl
      have hfr : Fr (fun b => b = d) wr ((wr.setCell ⟨d, 3, none⟩ (.bool false)).setCell ⟨d, 2, none⟩ (.int .i64 0)) := ((Fr.refl (fun b => b = d) wr).setCell (p := ⟨d, 3, none⟩) (.inl rfl) _).setCell (p := ⟨d, 2, none⟩) (.inl rfl) _
      have HRES : Hid (DkM ((wr.setCell ⟨d, 3, none⟩ (.bool false)).setCell ⟨d, 2, none⟩ (.int .i64 0)) d m ⟨P, D.lim, 0, false⟩) := Lib.hid ⟨⟨hob, dd.map.fr hfr fun e => dd.ne e.symm, dd.ne⟩, HOK.out.1, A.out.lim, HOK.out.2, Nat.zero_le _⟩
      have HFR := Lib.hid hfr
      clear hob hfr dd
      go_wp2
      go_ret
      exact ⟨rfl, by rw [HE.out]; exact HRES.out, HF.out.trans (HFR.out.mono fun _ _ h => .inl h) fun _ _ h => h⟩
    | cons f rest =>
      have hlt : (P.length : Int) < (nm.length : Int) := by rw [List.length_cons] at hlenI; omega
      obtain ⟨g, o, rfl⟩ := hgn (by omega)
      have hcell : wr.cell? ⟨g, o + P.length, none⟩ = some (.string (segB f.num)) := HSN.out.cell1 strB_length P.length (by rw [← HNM.out]; exact HI.out.name) rfl
      have hrg := HI.out.ok.rg f (List.mem_append_right _ (List.mem_cons_self ..))
      have hsl := HI.out.ok.syn f (List.mem_append_right _ (List.mem_cons_self ..))
      have hdl : f.data.length ≤ 1073741824 := by
        have h1 := sizeF_get HI.out.get
        have h2 := HI.out.sz
        have h3 := A.out.lim
        omega
      have HM := Lib.hid HD.out.map
      have HNN : Hid ((segB f.num).size ≤ maxLen) := Lib.hid (by rw [segB_size hrg.2]; decide)
      have HVL : Hid (((fun n => (fOf (P ++ f :: rest) n).map fileV) (segB f.num)).getD (.agg #[.string ByteArray.empty, .int .i64 0]) = .agg #[.string (toB f.data), .int .i64 f.syn]) := Lib.hid (by
        dsimp only
        rw [fOf_at, HI.out.get]
        rfl)
      have HSTEP := Lib.hid HI.out.step
      have cd0 : wr.cell? ⟨d, 0, none⟩ = some (.map (some m)) := cellAt HD.out.obj 0 rfl
      have ldr := heap_lt HD.out.obj
      have hxz := toB_size f.data
      have htk := fun k => toB_take f.data k
      obtain ⟨X, hX⟩ : ∃ X, toB f.data = X := ⟨_, rfl⟩
      rw [hX] at HVL hxz
      have hX0 := Lib.hid hX
      rw [hX] at htk
      clear hX
      have hll := HLL.out
      obtain ⟨nf, hnf⟩ : ∃ nf, segB f.num = nf := ⟨_, rfl⟩
      rw [hnf] at HVL hcell HNN HSTEP
      have hwr : IntKind.i64.wrap ((f.data.length : Int) - (f.syn : Int)) = (f.data.length : Int) - (f.syn : Int) := by rw [IntKind.wrap_i64]; omega
      by_cases hsame : f.data.length = f.syn
      · have hsub : (f.data.length : Int) - (f.syn : Int) = 0 := by omega
        rw [crash1_same hsame] at HSTEP
        clear hnf htk hsl hrg hwr
        go_wp2_with (refine wpList_lookS rfl _ _ 45 rfl 9 65 Tryz.underlying45 Tryz.underlying9 m _ rfl HM.out nf rfl HNN.out _ (zero65 _) _ HVL.out ?_)
        go_roundg rest.length
        case rel =>
          have hf : Fr No wr (wr.alloc (.cells #[.string X, .int .i64 f.syn] 65)) := (Fr.refl No wr).alloc _
          exact ⟨P ++ [f], rest, ks', by rw [List.length_append, List.length_singleton]; go_num, rfl, Lib.hid HSTEP.out.1, Lib.hid (HSK.out.fr0 hf), HOW, Lib.hid (by rw [List.append_assoc]; exact HD.out.fr0 hf), Lib.hid (HSN.out.fr0 hf), Lib.hid (HF.out.trans0 hf)⟩
        case measure => omega
      · have hsub : ¬ ((f.data.length : Int) - (f.syn : Int) = 0) := by omega
        cases ks' with
        | nil =>
          obtain ⟨ak, ck, rfl, _, _, _⟩ := HSK.out.shape
          rw [crash1_nil hsame] at HSTEP
          have htk' := htk f.syn
          dsimp only at HSTEP
          rw [← htk'] at HSTEP
          go_upto_region 12 with (refine wpList_lookS rfl _ _ 45 rfl 9 65 Tryz.underlying45 Tryz.underlying9 m _ rfl HM.out nf rfl HNN.out _ (zero65 _) _ HVL.out ?_)
          have hw0 : IntKind.i64.wrap (f.syn : Int) = f.syn := by rw [IntKind.wrap_i64]; omega
          have hb1 : (f.syn : Int) ≤ (f.data.length : Int) := by omega
          have hb2 : (0 : Int) ≤ (f.syn : Int) := by omega
          have hb3 := alloc_at wr (.cells #[.string X, .int .i64 f.syn] 65) _ rfl
          have hf3 : Fr No wr (wr.alloc (.cells #[.string X, .int .i64 f.syn] 65)) := (Fr.refl No wr).alloc _
          generalize wr.alloc (.cells #[.string X, .int .i64 f.syn] 65) = W3 at *
          have k0 : W3.drew.cell? ⟨wr.heap.size, 0, none⟩ = some (.string X) := cellAt (show W3.drew.heap[wr.heap.size]? = _ from hb3) 0 rfl
          have k1 : W3.drew.cell? ⟨wr.heap.size, 1, none⟩ = some (.int .i64 f.syn) := cellAt (show W3.drew.heap[wr.heap.size]? = _ from hb3) 1 rfl
          have kl : wr.heap.size < W3.drew.heap.size := heap_lt hb3
          have D3 := HD.out.fr0 hf3
          have kd : W3.drew.cell? ⟨d, 0, none⟩ = some (.map (some m)) := cellAt (show W3.drew.heap[d]? = _ from D3.obj) 0 rfl
          have kdl : d < W3.drew.heap.size := heap_lt D3.obj
          have HM3 := Lib.hid (D3.map.fr (Fr.refl No W3).drew (fun h => h))
          have HD3 := Lib.hid D3
          have HF3 := Lib.hid hf3
          clear hb3 hf3 D3
          refine wp_region_still_tail 17 (by kernel_rfl) (by kernel_rfl) ?_
          simp only [List.take_succ_cons, List.take_zero, List.drop_succ_cons, List.drop_zero]
          change wpStill _ _ W3.drew _ _ _
          repeat (refine wpStill_step (fun K hK => ?_); go_simp; refine hK _ ?_; clear hK K)
          refine wpStill_nil ?_
          change wpList _ _ _ _ _ W3.drew
          refine wpList_storeS rfl _ _ _ 45 rfl 9 65 Tryz.underlying45 Tryz.underlying9 m _ rfl HM3.out nf rfl HNN.out (fileV (X.extract 0 f.syn, (f.syn : Nat))) (by unfold fileV; go_simp) ?_
          rintro w5 hm5 hf5 hz5
          rw [map_setD, ← HSTEP.out.2] at hm5
          have HM5 := Lib.hid hm5
          have hfr5 : Fr (fun b => b = m) wr w5 := ((HF3.out.drew).mono fun _ _ h => h.elim).trans hf5 fun _ _ h => h
          have HFR5 := Lib.hid hfr5
          have HD5 : Hid (w5.heap[d]? = some (.cells #[.map (some m), .int .i64 D.lim, .int .i64 D.armed, .bool D.dead] 47 (0, 0))) := Lib.hid (hfr5.heap HD.out.obj HD.out.ne)
          clear k0 k1 kl kd kdl hm5 hf5 hz5 hfr5
          go_wp2
          go_roundg rest.length
          case rel =>
            exact ⟨P ++ [⟨f.num, f.data.take (f.syn), f.syn⟩], rest, [], by rw [List.length_append, List.length_singleton]; go_num, rfl, Lib.hid HSTEP.out.1, Lib.hid (HSK.out.fr HFR5.out (fun x hx e => (HOW.out x hx).2 e)), HOW, Lib.hid ⟨HD5.out, by rw [List.append_assoc]; exact HM5.out, HD.out.ne⟩, Lib.hid (HSN.out.fr HFR5.out (by intro x hx e; have := HN2.out x hx; have := HLM.out; omega)), Lib.hid (HF.out.trans (HFR5.out.mono fun _ _ h => .inr h) fun _ _ h => h)⟩
          case measure => omega
        | cons k ks' =>
          obtain ⟨ak, ck, rfl, hck, hckm, hgk⟩ := HSK.out.shape
          obtain ⟨gk2, ok2, rfl⟩ := hgk (by simp)
          have hkc : wr.cell? ⟨gk2, ok2, none⟩ = some (.int .i64 k) := by
            have := HSK.out.cell0 int1_length 0 (x := k) (u := .int .i64 k) rfl rfl
            simpa using this
          rw [crash1_cons hsame] at HSTEP
          have hkN := keepN_le f k
          have hkE : Hid (((keepN f k : Nat) : Int) = min (max k 0) ((f.data.length : Int) - (f.syn : Int))) := Lib.hid (by unfold keepN; omega)
          have HDR := Lib.hid (HSK.out.drop int1_length 1 (by simp))
          obtain ⟨N, hN⟩ : ∃ N, keepN f k = N := ⟨_, rfl⟩
          rw [hN] at HSTEP hkN hkE
          clear hN
          have htk' := htk (f.syn + N)
          dsimp only at HSTEP
          rw [← htk'] at HSTEP
          have hks1 : (0 : Int) < ((ks'.length : Int) + 1) := by omega
          have hck1 : ks'.length + 1 ≤ ck := by simpa using hck
          go_upto_region 11 with (refine wpList_lookS rfl _ _ 45 rfl 9 65 Tryz.underlying45 Tryz.underlying9 m _ rfl HM.out nf rfl HNN.out _ (zero65 _) _ HVL.out ?_)
          have hf3 : Fr No wr (wr.alloc (.cells #[.string X, .int .i64 f.syn] 65)) := (Fr.refl No wr).alloc _
          have hkc2 := hf3.cell0 hkc
          have hkc3 : (wr.alloc (.cells #[.string X, .int .i64 f.syn] 65)).drew.cell? ⟨gk2, ok2, none⟩ = some (.int .i64 k) := hkc2
          have h1c : (1 : Int) ≤ (ks'.length : Int) + 1 := by omega
          go_region_held3 (fun W => W.cell? ⟨gk2, ok2, none⟩ = some (.int .i64 k)) (first | exact hkc2 | exact hkc3) (fail)
          rw [← hkE.out]
          have HKS : Hid (SlR wr 1 int1 (.slice (if ck = 1 then some ⟨gk2, ok2, none⟩ else some ⟨gk2, ok2 + 1, none⟩) ks'.length (ck - 1)) ks') := HDR
          have HOW2 : Hid (∀ x, (Value.slice (if ck = 1 then some ⟨gk2, ok2, none⟩ else some ⟨gk2, ok2 + 1, none⟩) ks'.length (ck - 1)).ownBlock = some x → x ≠ d ∧ x ≠ m) := Lib.hid (by
            intro x hx
            refine HOW.out x ?_
            split at hx <;> exact hx)
          generalize (Value.slice (if ck = 1 then some ⟨gk2, ok2, none⟩ else some ⟨gk2, ok2 + 1, none⟩) ks'.length (ck - 1)) = S1 at *
          have hw0 : IntKind.i64.wrap ((f.syn : Int) + (N : Int)) = (f.syn : Int) + N := by rw [IntKind.wrap_i64]; omega
          have hb1 : (f.syn : Int) + (N : Int) ≤ (f.data.length : Int) := by omega
          have hb2 : (0 : Int) ≤ (f.syn : Int) + (N : Int) := by omega
          have hbn : ((f.syn : Int) + (N : Int)).toNat = f.syn + N := by omega
          clear hkc hkc2 hkc3 hf3 HDR
          go_upto_region 12 with fail
          have hb3 : (wr.alloc (.cells #[.string X, .int .i64 f.syn] 65)).drew.heap[wr.heap.size]? = _ := alloc_at wr (.cells #[.string X, .int .i64 f.syn] 65) _ rfl
          have hf3 : Fr No wr (wr.alloc (.cells #[.string X, .int .i64 f.syn] 65)).drew := ((Fr.refl No wr).alloc _).drew
          generalize (wr.alloc (.cells #[.string X, .int .i64 f.syn] 65)).drew = W3 at *
          have k0 : W3.drew.cell? ⟨wr.heap.size, 0, none⟩ = some (.string X) := cellAt (show W3.drew.heap[wr.heap.size]? = _ from hb3) 0 rfl
          have k1 : W3.drew.cell? ⟨wr.heap.size, 1, none⟩ = some (.int .i64 f.syn) := cellAt (show W3.drew.heap[wr.heap.size]? = _ from hb3) 1 rfl
          have kl : wr.heap.size < W3.drew.heap.size := heap_lt hb3
          have D3 := HD.out.fr0 hf3
          have kd : W3.drew.cell? ⟨d, 0, none⟩ = some (.map (some m)) := cellAt (show W3.drew.heap[d]? = _ from D3.obj) 0 rfl
          have kdl : d < W3.drew.heap.size := heap_lt D3.obj
          have HM3 := Lib.hid (D3.map.fr (Fr.refl No W3).drew (fun h => h))
          have HD3 := Lib.hid D3
          have HF3 := Lib.hid hf3
          clear hb3 hf3 D3
          refine wp_region_still_tail 17 (by kernel_rfl) (by kernel_rfl) ?_
          simp only [List.take_succ_cons, List.take_zero, List.drop_succ_cons, List.drop_zero]
          change wpStill _ _ W3.drew _ _ _
          repeat (refine wpStill_step (fun K hK => ?_); go_simp; refine hK _ ?_; clear hK K)
          refine wpStill_nil ?_
          change wpList _ _ _ _ _ W3.drew
          refine wpList_storeS rfl _ _ _ 45 rfl 9 65 Tryz.underlying45 Tryz.underlying9 m _ rfl HM3.out nf rfl HNN.out (fileV (X.extract 0 (f.syn + N), ((f.syn + N : Nat) : Int))) (by unfold fileV; go_simp) ?_
          rintro w5 hm5 hf5 hz5
          rw [map_setD, ← HSTEP.out.2] at hm5
          have HM5 := Lib.hid hm5
          have hfr5 : Fr (fun b => b = m) wr w5 := ((HF3.out.drew).mono fun _ _ h => h.elim).trans hf5 fun _ _ h => h
          have HFR5 := Lib.hid hfr5
          have HD5 : Hid (w5.heap[d]? = some (.cells #[.map (some m), .int .i64 D.lim, .int .i64 D.armed, .bool D.dead] 47 (0, 0))) := Lib.hid (hfr5.heap HD.out.obj HD.out.ne)
          clear k0 k1 kl kd kdl hm5 hf5 hz5 hfr5
          go_wp2
          go_roundg rest.length
          case rel =>
            exact ⟨P ++ [⟨f.num, f.data.take (f.syn + N), f.syn + N⟩], rest, ks', by rw [List.length_append, List.length_singleton]; go_num, rfl, Lib.hid HSTEP.out.1, Lib.hid ((HKS.out).fr HFR5.out (fun x hx e => (HOW2.out x hx).2 e)), HOW2, Lib.hid ⟨HD5.out, by rw [List.append_assoc]; exact HM5.out, HD.out.ne⟩, Lib.hid (HSN.out.fr HFR5.out (by intro x hx e; have := HN2.out x hx; have := HLM.out; omega)), Lib.hid (HF.out.trans (HFR5.out.mono fun _ _ h => .inr h) fun _ _ h => h)⟩
          case measure => omega
end Go.Proofs.YtillejdjghlicaaGreatDoor
