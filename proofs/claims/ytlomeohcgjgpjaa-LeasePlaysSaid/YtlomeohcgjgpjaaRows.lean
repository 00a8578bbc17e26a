/-
  No cell of these rows narrows 'for every input' (looked for: loops, veiled, ifaces, maps, wideKeys, modest, calm, conditions, laid).
  DERIVED. THE GIVEN ROWS OF THIS SEAT. 7 by the template 'for every input the law returns true; each argument reads behind the call as it read before'; 0 by the template 'total and deterministic' (their statements: YtlomeohcgjgpjaaTotals.lean).
  GIVEN WITH THE SEED: the statements are not yours to turn. If you find one false, say at which input.
  Laid BY PROGRAM, IN A SANDBOX (cutbox-rows.mjs): the forced cells as the released guide's own fill.sh prints them over the translation aece21db579c7012… (all of the seat's roots in one cut). By AI agents, Wed Nov 11 2026. No macro, syntax, notation, axiom, sorry.
-/
import Derived.Test.YtlomeohcgjgpjaaChecked
import GoSem.Claim
import GoSem.ClaimJoined
import GoSem.ClaimMapViews
import Derived.JoinedTies
import Derived.KernelRfl
namespace Go.Proofs.Ytlomeohcgjgpjaa
/- THE CELL 'sum', in the pinned program and in every row, IS THE sha256 OF THE DUMP (.gsa) THAT YtlomeohcgjgpjaaProg.lean LOADS. Nothing in Lean hashes anything: it is a label: what it is worth is what the hold of that sum in a sandbox is worth. -/
noncomputable def Try.pinned : Pinned := { name := "ytlomeohcgjgpjaa", sum := "aece21db579c7012c5f12c777e685a41855e4341dfce64fd2979d275fd6ca5fe", checked := Try.checked }
namespace Rows
def none {H : Type} : Left H := { results := [], args := [] }

/-- 'chancerylaw14.LeaseOwn': WHATEVER THE INPUT: true; the input reads as it did. -/
def leaseOwnSpec : ChangeSpec := { name := "leaseOwn", fn := fun _ => fun
  | [d1, d2] => { results := [.lit (.bool true)], args := [d1, d2] }
  | _ => none }
def leaseOwnRow : OpenClaim := { program := "ytlomeohcgjgpjaa", sum := "aece21db579c7012c5f12c777e685a41855e4341dfce64fd2979d275fd6ca5fe", func := "chancery/chancerylaw14.LeaseOwn", spec := "leaseOwn", inPlace := ["slices.overlaps[string]"], unfollowed := true, recurses := true, apart := false }
def LeaseOwnSaid : Prop := leaseOwnRow.holds Try.pinned (OpenSpec.ofChange leaseOwnSpec)

/-- ITS FALSE NEIGHBOUR: 'it returns false'. Refute it at one input. -/
def leaseOwnWrong : ChangeSpec := { name := "leaseOwn", fn := fun _ => fun
  | [d1, d2] => { results := [.lit (.bool false)], args := [d1, d2] }
  | _ => none }
def LeaseOwnWrongFalsely : Prop := leaseOwnRow.holds Try.pinned (OpenSpec.ofChange leaseOwnWrong)

/-- 'chancerylaw14.LeaseKeys': WHATEVER THE INPUT: true; the input reads as it did. -/
def leaseKeysSpec : ChangeSpec := { name := "leaseKeys", fn := fun _ => fun
  | [d] => { results := [.lit (.bool true)], args := [d] }
  | _ => none }
def leaseKeysRow : OpenClaim := { program := "ytlomeohcgjgpjaa", sum := "aece21db579c7012c5f12c777e685a41855e4341dfce64fd2979d275fd6ca5fe", func := "chancery/chancerylaw14.LeaseKeys", spec := "leaseKeys", inPlace := ["slices.overlaps[string]"], unfollowed := true, recurses := true, apart := false }
def LeaseKeysSaid : Prop := leaseKeysRow.holds Try.pinned (OpenSpec.ofChange leaseKeysSpec)

/-- ITS FALSE NEIGHBOUR: 'it returns false'. Refute it at one input. -/
def leaseKeysWrong : ChangeSpec := { name := "leaseKeys", fn := fun _ => fun
  | [d] => { results := [.lit (.bool false)], args := [d] }
  | _ => none }
def LeaseKeysWrongFalsely : Prop := leaseKeysRow.holds Try.pinned (OpenSpec.ofChange leaseKeysWrong)

/-- 'chancerylaw14.LeaseRevokes': WHATEVER THE INPUT: true; the input reads as it did. -/
def leaseRevokesSpec : ChangeSpec := { name := "leaseRevokes", fn := fun _ => fun
  | [d1, d2] => { results := [.lit (.bool true)], args := [d1, d2] }
  | _ => none }
def leaseRevokesRow : OpenClaim := { program := "ytlomeohcgjgpjaa", sum := "aece21db579c7012c5f12c777e685a41855e4341dfce64fd2979d275fd6ca5fe", func := "chancery/chancerylaw14.LeaseRevokes", spec := "leaseRevokes", inPlace := ["slices.overlaps[string]"], unfollowed := true, recurses := true, apart := false }
def LeaseRevokesSaid : Prop := leaseRevokesRow.holds Try.pinned (OpenSpec.ofChange leaseRevokesSpec)

/-- ITS FALSE NEIGHBOUR: 'it returns false'. Refute it at one input. -/
def leaseRevokesWrong : ChangeSpec := { name := "leaseRevokes", fn := fun _ => fun
  | [d1, d2] => { results := [.lit (.bool false)], args := [d1, d2] }
  | _ => none }
def LeaseRevokesWrongFalsely : Prop := leaseRevokesRow.holds Try.pinned (OpenSpec.ofChange leaseRevokesWrong)

/-- 'chancerylaw14.LeaseParts': WHATEVER THE INPUT: true; the input reads as it did. -/
def leasePartsSpec : ChangeSpec := { name := "leaseParts", fn := fun _ => fun
  | [d1, d2, d3] => { results := [.lit (.bool true)], args := [d1, d2, d3] }
  | _ => none }
def leasePartsRow : OpenClaim := { program := "ytlomeohcgjgpjaa", sum := "aece21db579c7012c5f12c777e685a41855e4341dfce64fd2979d275fd6ca5fe", func := "chancery/chancerylaw14.LeaseParts", spec := "leaseParts", inPlace := ["slices.overlaps[string]"], unfollowed := true, recurses := true, apart := false }
def LeasePartsSaid : Prop := leasePartsRow.holds Try.pinned (OpenSpec.ofChange leasePartsSpec)

/-- ITS FALSE NEIGHBOUR: 'it returns false'. Refute it at one input. -/
def leasePartsWrong : ChangeSpec := { name := "leaseParts", fn := fun _ => fun
  | [d1, d2, d3] => { results := [.lit (.bool false)], args := [d1, d2, d3] }
  | _ => none }
def LeasePartsWrongFalsely : Prop := leasePartsRow.holds Try.pinned (OpenSpec.ofChange leasePartsWrong)

/-- 'chancerylaw14.LeasePlays': WHATEVER THE INPUT: true; the input reads as it did. -/
def leasePlaysSpec : ChangeSpec := { name := "leasePlays", fn := fun _ => fun
  | [d] => { results := [.lit (.bool true)], args := [d] }
  | _ => none }
def leasePlaysRow : OpenClaim := { program := "ytlomeohcgjgpjaa", sum := "aece21db579c7012c5f12c777e685a41855e4341dfce64fd2979d275fd6ca5fe", func := "chancery/chancerylaw14.LeasePlays", spec := "leasePlays", inPlace := ["slices.overlaps[string]"], unfollowed := true, recurses := true, apart := false }
def LeasePlaysSaid : Prop := leasePlaysRow.holds Try.pinned (OpenSpec.ofChange leasePlaysSpec)

/-- ITS FALSE NEIGHBOUR: 'it returns false'. Refute it at one input. -/
def leasePlaysWrong : ChangeSpec := { name := "leasePlays", fn := fun _ => fun
  | [d] => { results := [.lit (.bool false)], args := [d] }
  | _ => none }
def LeasePlaysWrongFalsely : Prop := leasePlaysRow.holds Try.pinned (OpenSpec.ofChange leasePlaysWrong)

/-- 'chancerylaw14.LeaseTimes': WHATEVER THE INPUT: true; the input reads as it did. -/
def leaseTimesSpec : ChangeSpec := { name := "leaseTimes", fn := fun _ => fun
  | [d1, d2] => { results := [.lit (.bool true)], args := [d1, d2] }
  | _ => none }
def leaseTimesRow : OpenClaim := { program := "ytlomeohcgjgpjaa", sum := "aece21db579c7012c5f12c777e685a41855e4341dfce64fd2979d275fd6ca5fe", func := "chancery/chancerylaw14.LeaseTimes", spec := "leaseTimes", inPlace := ["slices.overlaps[string]"], unfollowed := true, recurses := true, apart := false }
def LeaseTimesSaid : Prop := leaseTimesRow.holds Try.pinned (OpenSpec.ofChange leaseTimesSpec)

/-- ITS FALSE NEIGHBOUR: 'it returns false'. Refute it at one input. -/
def leaseTimesWrong : ChangeSpec := { name := "leaseTimes", fn := fun _ => fun
  | [d1, d2] => { results := [.lit (.bool false)], args := [d1, d2] }
  | _ => none }
def LeaseTimesWrongFalsely : Prop := leaseTimesRow.holds Try.pinned (OpenSpec.ofChange leaseTimesWrong)

/-- 'chancerylaw14.LeaseNil': WHATEVER THE INPUT: true; the input reads as it did. -/
def leaseNilSpec : ChangeSpec := { name := "leaseNil", fn := fun _ => fun
  | [d] => { results := [.lit (.bool true)], args := [d] }
  | _ => none }
def leaseNilRow : OpenClaim := { program := "ytlomeohcgjgpjaa", sum := "aece21db579c7012c5f12c777e685a41855e4341dfce64fd2979d275fd6ca5fe", func := "chancery/chancerylaw14.LeaseNil", spec := "leaseNil", inPlace := ["slices.overlaps[string]"], unfollowed := true, recurses := true, apart := false }
def LeaseNilSaid : Prop := leaseNilRow.holds Try.pinned (OpenSpec.ofChange leaseNilSpec)

/-- ITS FALSE NEIGHBOUR: 'it returns false'. Refute it at one input. -/
def leaseNilWrong : ChangeSpec := { name := "leaseNil", fn := fun _ => fun
  | [d] => { results := [.lit (.bool false)], args := [d] }
  | _ => none }
def LeaseNilWrongFalsely : Prop := leaseNilRow.holds Try.pinned (OpenSpec.ofChange leaseNilWrong)

/- THE SECOND FORM. 'bulk': how many values and letters a reading holds, each counted each time it is reached (what is shared counts as often as it is met; a slice's spare places count too). A statement '..UptoSaid' is the law's where the arguments, and the package variables that the reading takes, are together of bulk at most 1048576: NARROWER than '..Said'. Prove '..Said' where nothing that the law and all that it calls make is longer than what came in: it says more and counts as full. Else prove '..UptoSaid'. A law counts once. -/
mutual
def uptoBulk {H : Type} : DataW H → Nat
  | .lit (.string bytes) => bytes.length + 1
  | .lit _ => 1
  | .nil => 1
  | .ptr d => uptoBulk d + 1
  | .slice elems spare => uptoBulkAll elems + uptoBulkAll spare + 1
  | .agg parts => uptoBulkAll parts + 1
  | .iface _ d => uptoBulk d + 1
  | .map entries => uptoBulkEntries entries + 1
  | .held _ => 1
def uptoBulkAll {H : Type} : List (DataW H) → Nat
  | [] => 0
  | d :: r => uptoBulk d + uptoBulkAll r
def uptoBulkEntries {H : Type} : List (Lit × DataW H) → Nat
  | [] => 0
  | x :: r => uptoBulkEntry x + uptoBulkEntries r
def uptoBulkEntry {H : Type} : Lit × DataW H → Nat
  | (.string bytes, d) => bytes.length + uptoBulk d + 1
  | (_, d) => uptoBulk d + 1
 end
def uptoSmall : (H : Type) → List (DataW H) → Bool := fun _ ds => decide (uptoBulkAll ds ≤ 1048576)
def OpenSpec.upto (s : _root_.Go.ChangeSpec) : _root_.Go.OpenSpec := { _root_.Go.OpenSpec.ofChange s with cond := some uptoSmall }

/-- 'chancerylaw14.LeaseOwn', WHERE WHAT IT READS IS OF BULK AT MOST 1048576: true; the input reads as it did. -/
def leaseOwnUptoRow : OpenClaim := { program := "ytlomeohcgjgpjaa", sum := "aece21db579c7012c5f12c777e685a41855e4341dfce64fd2979d275fd6ca5fe", func := "chancery/chancerylaw14.LeaseOwn", spec := "leaseOwn", inPlace := ["slices.overlaps[string]"], unfollowed := true, recurses := true, apart := false, narrowed := true }
def LeaseOwnUptoSaid : Prop := leaseOwnUptoRow.holds Try.pinned (OpenSpec.upto leaseOwnSpec)

/-- 'chancerylaw14.LeaseKeys', WHERE WHAT IT READS IS OF BULK AT MOST 1048576: true; the input reads as it did. -/
def leaseKeysUptoRow : OpenClaim := { program := "ytlomeohcgjgpjaa", sum := "aece21db579c7012c5f12c777e685a41855e4341dfce64fd2979d275fd6ca5fe", func := "chancery/chancerylaw14.LeaseKeys", spec := "leaseKeys", inPlace := ["slices.overlaps[string]"], unfollowed := true, recurses := true, apart := false, narrowed := true }
def LeaseKeysUptoSaid : Prop := leaseKeysUptoRow.holds Try.pinned (OpenSpec.upto leaseKeysSpec)

/-- 'chancerylaw14.LeaseRevokes', WHERE WHAT IT READS IS OF BULK AT MOST 1048576: true; the input reads as it did. -/
def leaseRevokesUptoRow : OpenClaim := { program := "ytlomeohcgjgpjaa", sum := "aece21db579c7012c5f12c777e685a41855e4341dfce64fd2979d275fd6ca5fe", func := "chancery/chancerylaw14.LeaseRevokes", spec := "leaseRevokes", inPlace := ["slices.overlaps[string]"], unfollowed := true, recurses := true, apart := false, narrowed := true }
def LeaseRevokesUptoSaid : Prop := leaseRevokesUptoRow.holds Try.pinned (OpenSpec.upto leaseRevokesSpec)

/-- 'chancerylaw14.LeaseParts', WHERE WHAT IT READS IS OF BULK AT MOST 1048576: true; the input reads as it did. -/
def leasePartsUptoRow : OpenClaim := { program := "ytlomeohcgjgpjaa", sum := "aece21db579c7012c5f12c777e685a41855e4341dfce64fd2979d275fd6ca5fe", func := "chancery/chancerylaw14.LeaseParts", spec := "leaseParts", inPlace := ["slices.overlaps[string]"], unfollowed := true, recurses := true, apart := false, narrowed := true }
def LeasePartsUptoSaid : Prop := leasePartsUptoRow.holds Try.pinned (OpenSpec.upto leasePartsSpec)

/-- 'chancerylaw14.LeasePlays', WHERE WHAT IT READS IS OF BULK AT MOST 1048576: true; the input reads as it did. -/
def leasePlaysUptoRow : OpenClaim := { program := "ytlomeohcgjgpjaa", sum := "aece21db579c7012c5f12c777e685a41855e4341dfce64fd2979d275fd6ca5fe", func := "chancery/chancerylaw14.LeasePlays", spec := "leasePlays", inPlace := ["slices.overlaps[string]"], unfollowed := true, recurses := true, apart := false, narrowed := true }
def LeasePlaysUptoSaid : Prop := leasePlaysUptoRow.holds Try.pinned (OpenSpec.upto leasePlaysSpec)

/-- 'chancerylaw14.LeaseTimes', WHERE WHAT IT READS IS OF BULK AT MOST 1048576: true; the input reads as it did. -/
def leaseTimesUptoRow : OpenClaim := { program := "ytlomeohcgjgpjaa", sum := "aece21db579c7012c5f12c777e685a41855e4341dfce64fd2979d275fd6ca5fe", func := "chancery/chancerylaw14.LeaseTimes", spec := "leaseTimes", inPlace := ["slices.overlaps[string]"], unfollowed := true, recurses := true, apart := false, narrowed := true }
def LeaseTimesUptoSaid : Prop := leaseTimesUptoRow.holds Try.pinned (OpenSpec.upto leaseTimesSpec)

/-- 'chancerylaw14.LeaseNil', WHERE WHAT IT READS IS OF BULK AT MOST 1048576: true; the input reads as it did. -/
def leaseNilUptoRow : OpenClaim := { program := "ytlomeohcgjgpjaa", sum := "aece21db579c7012c5f12c777e685a41855e4341dfce64fd2979d275fd6ca5fe", func := "chancery/chancerylaw14.LeaseNil", spec := "leaseNil", inPlace := ["slices.overlaps[string]"], unfollowed := true, recurses := true, apart := false, narrowed := true }
def LeaseNilUptoSaid : Prop := leaseNilUptoRow.holds Try.pinned (OpenSpec.upto leaseNilSpec)

end Rows
end Go.Proofs.Ytlomeohcgjgpjaa
