/- How the queue's methods are found behind the interface; container/heap's up, down, Push and Pop over it. The condition: the queue lies in the table's cell. -/
import Derived.Test.YtlomeohcgjgpjaaLeaI
namespace Go.Proofs.Ytlomeohcgjgpjaa
open Go Go.Proofs Go.RowKit
set_option maxRecDepth 100000

theorem ent_of {P : Program} {f : FuncId} {fn : Func} {c : Code} (hf : P.funcs[f]? = some fn) (hname : (fn.name == "runtime.NumGoroutine") = false) (hb : fn.body = some c) : ∀ args w, (callFunc f args).run P w = .ok (.enter f args) w := by
  intro args w
  have h1 : fn.name ≠ "runtime.NumGoroutine" := by simpa using hname
  simp [callFunc, hf, h1, hb, mark]
theorem e113 : ∀ args w, (callFunc 113 args).run Try.prog w = .ok (.enter 113 args) w := ent_of Try.func113 (by kernel_rfl) rfl
theorem e114 : ∀ args w, (callFunc 114 args).run Try.prog w = .ok (.enter 114 args) w := ent_of Try.func114 (by kernel_rfl) rfl
theorem e115 : ∀ args w, (callFunc 115 args).run Try.prog w = .ok (.enter 115 args) w := ent_of Try.func115 (by kernel_rfl) rfl
theorem e116 : ∀ args w, (callFunc 116 args).run Try.prog w = .ok (.enter 116 args) w := ent_of Try.func116 (by kernel_rfl) rfl
theorem e117 : ∀ args w, (callFunc 117 args).run Try.prog w = .ok (.enter 117 args) w := ent_of Try.func117 (by kernel_rfl) rfl
theorem found84 (name : String) (f : Nat) (p : Bool) (hm : ((Try.prog.info? 84).bind fun i => i.methods.find? (·.name == name)).map (fun m => (m.path, m.func)) = some (#[], some (f, p))) : ∃ i m, Try.prog.info? 84 = some i ∧ i.methods.find? (·.name == name) = some m ∧ m.path = #[] ∧ m.func = some (f, p) := by
  obtain ⟨m, hm, h2⟩ := Option.map_eq_some_iff.1 hm
  obtain ⟨i, hi, h3⟩ := Option.bind_eq_some_iff.1 hm
  simp only [Prod.mk.injEq] at h2
  exact ⟨i, m, hi, h3, h2.1, h2.2⟩
theorem mVal (W : World) (t : Nat) (qv : Value) (h : W.cell? ⟨t, 3, none⟩ = some qv) (name : String) (f : Nat) (hm : ((Try.prog.info? 84).bind fun i => i.methods.find? (·.name == name)).map (fun m => (m.path, m.func)) = some (#[], some (f, false)))
    (hs : (Builtin.ssaWrapNilChk_ #[84] 84 #[.pointer (some ⟨t, 3, none⟩), strVal "", strVal ((name.splitOn ".").getLast?.getD name)]).run Try.prog W = .ok (.pointer (some ⟨t, 3, none⟩)) W) :
    Sem.run Try.prog (method 257 84 (.pointer (some ⟨t, 3, none⟩)) name) W = .ok (f, qv) W := by
  obtain ⟨i, m, hi, h3, h4, h5⟩ := found84 name f false hm
  have hl : (loadVar 66 ⟨t, 3, none⟩).run Try.prog W = .ok qv W := by
    go_simp
  show Sem.run Try.prog (method (256 + 1) 84 (.pointer (some ⟨t, 3, none⟩)) name) W = _
  rw [method]
  simp [typeInfo, hi, h3, h4, h5, follow, Place.get, receiverAt, hs, run_underlying Try.underlying84, Result.andThen, hl, asAddr]
theorem mPtr (W : World) (t : Nat) (name : String) (f : Nat) (hm : ((Try.prog.info? 84).bind fun i => i.methods.find? (·.name == name)).map (fun m => (m.path, m.func)) = some (#[], some (f, true))) :
    Sem.run Try.prog (method 257 84 (.pointer (some ⟨t, 3, none⟩)) name) W = .ok (f, .pointer (some ⟨t, 3, none⟩)) W := by
  obtain ⟨i, m, hi, h3, h4, h5⟩ := found84 name f true hm
  show Sem.run Try.prog (method (256 + 1) 84 (.pointer (some ⟨t, 3, none⟩)) name) W = _
  rw [method]
  simp [typeInfo, hi, h3, h4, h5, follow, Place.get, receiverAt, run_underlying Try.underlying84, Result.andThen]
theorem mLess (W : World) (t : Nat) (qv : Value) (h : W.cell? ⟨t, 3, none⟩ = some qv) : Sem.run Try.prog (method 257 84 (.pointer (some ⟨t, 3, none⟩)) "Less") W = .ok (114, qv) W := mVal W t qv h _ _ (by kernel_rfl) (by kernel_rfl)
theorem mSwap (W : World) (t : Nat) (qv : Value) (h : W.cell? ⟨t, 3, none⟩ = some qv) : Sem.run Try.prog (method 257 84 (.pointer (some ⟨t, 3, none⟩)) "Swap") W = .ok (115, qv) W := mVal W t qv h _ _ (by kernel_rfl) (by kernel_rfl)
theorem mLen (W : World) (t : Nat) (qv : Value) (h : W.cell? ⟨t, 3, none⟩ = some qv) : Sem.run Try.prog (method 257 84 (.pointer (some ⟨t, 3, none⟩)) "Len") W = .ok (113, qv) W := mVal W t qv h _ _ (by kernel_rfl) (by kernel_rfl)
theorem mPush (W : World) (t : Nat) : Sem.run Try.prog (method 257 84 (.pointer (some ⟨t, 3, none⟩)) "Push") W = .ok (117, .pointer (some ⟨t, 3, none⟩)) W := mPtr W t _ _ (by kernel_rfl)
theorem mPop (W : World) (t : Nat) : Sem.run Try.prog (method 257 84 (.pointer (some ⟨t, 3, none⟩)) "Pop") W = .ok (116, .pointer (some ⟨t, 3, none⟩)) W := mPtr W t _ _ (by kernel_rfl)
end Go.Proofs.Ytlomeohcgjgpjaa
