/-
  No cell of these rows narrows 'for every input' (looked for: loops, veiled, ifaces, maps, wideKeys, modest, calm, conditions, laid).
  DERIVED. THE GIVEN ROWS OF THIS SEAT. 6 by the template 'for every input the law returns true; each argument reads behind the call as it read before'; 0 by the template 'total and deterministic' (their statements: YtdgkdfmfoonbpaaGreatTotals.lean).
  GIVEN WITH THE SEED: the statements are not yours to turn. If you find one false, say at which input.
  Laid BY PROGRAM, IN A SANDBOX (cutbox-rows.mjs): the forced cells as the released guide's own fill.sh prints them over the translation e8dfc17857a1cfb6… (all of the seat's roots in one cut). By AI agents, Wed Nov 11 2026. No macro, syntax, notation, axiom, sorry.
-/
import Derived.Test.YtdgkdfmfoonbpaaGreatChecked
import GoSem.Claim
import GoSem.ClaimJoined
import GoSem.ClaimMapViews
import Derived.JoinedTies
import Derived.KernelRfl
namespace Go.Proofs.YtdgkdfmfoonbpaaGreat
/- THE CELL 'sum', in the pinned program and in every row, IS THE sha256 OF THE DUMP (.gsa) THAT YtdgkdfmfoonbpaaGreatProg.lean LOADS. Nothing in Lean hashes anything: it is a label: what it is worth is what the hold of that sum in a sandbox is worth. -/
noncomputable def Tryz.pinned : Pinned := { name := "ytdgkdfmfoonbpaagreat", sum := "e8dfc17857a1cfb66e583893725e16c67cecb02ae7534d416e33c8d5291f148e", checked := Tryz.checked }
namespace Rows
def none {H : Type} : Left H := { results := [], args := [] }

/-- 'chancerylaw15.WatchNil': WHATEVER THE INPUT: true; the input reads as it did. -/
def watchNilSpec : ChangeSpec := { name := "watchNil", fn := fun _ => fun
  | [d] => { results := [.lit (.bool true)], args := [d] }
  | _ => none }
def watchNilRow : OpenClaim := { program := "ytdgkdfmfoonbpaagreat", sum := "e8dfc17857a1cfb66e583893725e16c67cecb02ae7534d416e33c8d5291f148e", func := "chancery/chancerylaw15.WatchNil", spec := "watchNil", inPlace := ["internal/bytealg.IndexByteString"], unfollowed := true, recurses := true, apart := false }
def WatchNilSaid : Prop := watchNilRow.holds Tryz.pinned (OpenSpec.ofChange watchNilSpec)

/-- ITS FALSE NEIGHBOUR: 'it returns false'. Refute it at one input. -/
def watchNilWrong : ChangeSpec := { name := "watchNil", fn := fun _ => fun
  | [d] => { results := [.lit (.bool false)], args := [d] }
  | _ => none }
def WatchNilWrongFalsely : Prop := watchNilRow.holds Tryz.pinned (OpenSpec.ofChange watchNilWrong)

/-- 'chancerylaw15.WatchPrefix': WHATEVER THE INPUT: true; the input reads as it did. -/
def watchPrefixSpec : ChangeSpec := { name := "watchPrefix", fn := fun _ => fun
  | [d1, d2, d3] => { results := [.lit (.bool true)], args := [d1, d2, d3] }
  | _ => none }
def watchPrefixRow : OpenClaim := { program := "ytdgkdfmfoonbpaagreat", sum := "e8dfc17857a1cfb66e583893725e16c67cecb02ae7534d416e33c8d5291f148e", func := "chancery/chancerylaw15.WatchPrefix", spec := "watchPrefix", inPlace := ["internal/bytealg.IndexByteString"], unfollowed := true, recurses := true, apart := false }
def WatchPrefixSaid : Prop := watchPrefixRow.holds Tryz.pinned (OpenSpec.ofChange watchPrefixSpec)

/-- ITS FALSE NEIGHBOUR: 'it returns false'. Refute it at one input. -/
def watchPrefixWrong : ChangeSpec := { name := "watchPrefix", fn := fun _ => fun
  | [d1, d2, d3] => { results := [.lit (.bool false)], args := [d1, d2, d3] }
  | _ => none }
def WatchPrefixWrongFalsely : Prop := watchPrefixRow.holds Tryz.pinned (OpenSpec.ofChange watchPrefixWrong)

/-- 'chancerylaw15.WatchResumes': WHATEVER THE INPUT: true; the input reads as it did. -/
def watchResumesSpec : ChangeSpec := { name := "watchResumes", fn := fun _ => fun
  | [d1, d2, d3, d4] => { results := [.lit (.bool true)], args := [d1, d2, d3, d4] }
  | _ => none }
def watchResumesRow : OpenClaim := { program := "ytdgkdfmfoonbpaagreat", sum := "e8dfc17857a1cfb66e583893725e16c67cecb02ae7534d416e33c8d5291f148e", func := "chancery/chancerylaw15.WatchResumes", spec := "watchResumes", inPlace := ["internal/bytealg.IndexByteString"], unfollowed := true, recurses := true, apart := false }
def WatchResumesSaid : Prop := watchResumesRow.holds Tryz.pinned (OpenSpec.ofChange watchResumesSpec)

/-- ITS FALSE NEIGHBOUR: 'it returns false'. Refute it at one input. -/
def watchResumesWrong : ChangeSpec := { name := "watchResumes", fn := fun _ => fun
  | [d1, d2, d3, d4] => { results := [.lit (.bool false)], args := [d1, d2, d3, d4] }
  | _ => none }
def WatchResumesWrongFalsely : Prop := watchResumesRow.holds Tryz.pinned (OpenSpec.ofChange watchResumesWrong)

/-- 'chancerylaw15.WatchCounts': WHATEVER THE INPUT: true; the input reads as it did. -/
def watchCountsSpec : ChangeSpec := { name := "watchCounts", fn := fun _ => fun
  | [d1, d2] => { results := [.lit (.bool true)], args := [d1, d2] }
  | _ => none }
def watchCountsRow : OpenClaim := { program := "ytdgkdfmfoonbpaagreat", sum := "e8dfc17857a1cfb66e583893725e16c67cecb02ae7534d416e33c8d5291f148e", func := "chancery/chancerylaw15.WatchCounts", spec := "watchCounts", inPlace := ["internal/bytealg.IndexByteString"], unfollowed := true, recurses := true, apart := false }
def WatchCountsSaid : Prop := watchCountsRow.holds Tryz.pinned (OpenSpec.ofChange watchCountsSpec)

/-- ITS FALSE NEIGHBOUR: 'it returns false'. Refute it at one input. -/
def watchCountsWrong : ChangeSpec := { name := "watchCounts", fn := fun _ => fun
  | [d1, d2] => { results := [.lit (.bool false)], args := [d1, d2] }
  | _ => none }
def WatchCountsWrongFalsely : Prop := watchCountsRow.holds Tryz.pinned (OpenSpec.ofChange watchCountsWrong)

/-- 'chancerylaw15.WatchStill': WHATEVER THE INPUT: true; the input reads as it did. -/
def watchStillSpec : ChangeSpec := { name := "watchStill", fn := fun _ => fun
  | [d] => { results := [.lit (.bool true)], args := [d] }
  | _ => none }
def watchStillRow : OpenClaim := { program := "ytdgkdfmfoonbpaagreat", sum := "e8dfc17857a1cfb66e583893725e16c67cecb02ae7534d416e33c8d5291f148e", func := "chancery/chancerylaw15.WatchStill", spec := "watchStill", inPlace := ["internal/bytealg.IndexByteString"], unfollowed := true, recurses := true, apart := false }
def WatchStillSaid : Prop := watchStillRow.holds Tryz.pinned (OpenSpec.ofChange watchStillSpec)

/-- ITS FALSE NEIGHBOUR: 'it returns false'. Refute it at one input. -/
def watchStillWrong : ChangeSpec := { name := "watchStill", fn := fun _ => fun
  | [d] => { results := [.lit (.bool false)], args := [d] }
  | _ => none }
def WatchStillWrongFalsely : Prop := watchStillRow.holds Tryz.pinned (OpenSpec.ofChange watchStillWrong)

/-- 'chancerylaw15.WatchPlays': WHATEVER THE INPUT: true; the input reads as it did. -/
def watchPlaysSpec : ChangeSpec := { name := "watchPlays", fn := fun _ => fun
  | [d] => { results := [.lit (.bool true)], args := [d] }
  | _ => none }
def watchPlaysRow : OpenClaim := { program := "ytdgkdfmfoonbpaagreat", sum := "e8dfc17857a1cfb66e583893725e16c67cecb02ae7534d416e33c8d5291f148e", func := "chancery/chancerylaw15.WatchPlays", spec := "watchPlays", inPlace := ["internal/bytealg.IndexByteString"], unfollowed := true, recurses := true, apart := false }
def WatchPlaysSaid : Prop := watchPlaysRow.holds Tryz.pinned (OpenSpec.ofChange watchPlaysSpec)

/-- ITS FALSE NEIGHBOUR: 'it returns false'. Refute it at one input. -/
def watchPlaysWrong : ChangeSpec := { name := "watchPlays", fn := fun _ => fun
  | [d] => { results := [.lit (.bool false)], args := [d] }
  | _ => none }
def WatchPlaysWrongFalsely : Prop := watchPlaysRow.holds Tryz.pinned (OpenSpec.ofChange watchPlaysWrong)

/- THE SECOND FORM. 'bulk': how many values and letters a reading holds, each counted each time it is reached (what is shared counts as often as it is met; a slice's spare places count too). A statement '..UptoSaid' is the law's where the arguments, and the package variables that the reading takes, are together of bulk at most 1048576: NARROWER than '..Said'. Prove '..Said' where nothing that the law and all that it calls make is longer than what came in: it says more and counts as full. Else prove '..UptoSaid'. A law counts once. -/
mutual
def uptoBulk {H : Type} : DataW H → Nat
  | .lit (.string bytes) => bytes.length + 1
  | .lit _ => 1
  | .nil => 1
  | .ptr d => uptoBulk d + 1
  | .slice elems spare => uptoBulkAll elems + uptoBulkAll spare + 1
  | .agg parts => uptoBulkAll parts + 1
  | .iface _ d => uptoBulk d + 1
  | .map entries => uptoBulkEntries entries + 1
  | .held _ => 1
def uptoBulkAll {H : Type} : List (DataW H) → Nat
  | [] => 0
  | d :: r => uptoBulk d + uptoBulkAll r
def uptoBulkEntries {H : Type} : List (Lit × DataW H) → Nat
  | [] => 0
  | x :: r => uptoBulkEntry x + uptoBulkEntries r
def uptoBulkEntry {H : Type} : Lit × DataW H → Nat
  | (.string bytes, d) => bytes.length + uptoBulk d + 1
  | (_, d) => uptoBulk d + 1
 end
def uptoSmall : (H : Type) → List (DataW H) → Bool := fun _ ds => decide (uptoBulkAll ds ≤ 1048576)
def OpenSpec.upto (s : _root_.Go.ChangeSpec) : _root_.Go.OpenSpec := { _root_.Go.OpenSpec.ofChange s with cond := some uptoSmall }

/-- 'chancerylaw15.WatchNil', WHERE WHAT IT READS IS OF BULK AT MOST 1048576: true; the input reads as it did. -/
def watchNilUptoRow : OpenClaim := { program := "ytdgkdfmfoonbpaagreat", sum := "e8dfc17857a1cfb66e583893725e16c67cecb02ae7534d416e33c8d5291f148e", func := "chancery/chancerylaw15.WatchNil", spec := "watchNil", inPlace := ["internal/bytealg.IndexByteString"], unfollowed := true, recurses := true, apart := false, narrowed := true }
def WatchNilUptoSaid : Prop := watchNilUptoRow.holds Tryz.pinned (OpenSpec.upto watchNilSpec)

/-- 'chancerylaw15.WatchPrefix', WHERE WHAT IT READS IS OF BULK AT MOST 1048576: true; the input reads as it did. -/
def watchPrefixUptoRow : OpenClaim := { program := "ytdgkdfmfoonbpaagreat", sum := "e8dfc17857a1cfb66e583893725e16c67cecb02ae7534d416e33c8d5291f148e", func := "chancery/chancerylaw15.WatchPrefix", spec := "watchPrefix", inPlace := ["internal/bytealg.IndexByteString"], unfollowed := true, recurses := true, apart := false, narrowed := true }
def WatchPrefixUptoSaid : Prop := watchPrefixUptoRow.holds Tryz.pinned (OpenSpec.upto watchPrefixSpec)

/-- 'chancerylaw15.WatchResumes', WHERE WHAT IT READS IS OF BULK AT MOST 1048576: true; the input reads as it did. -/
def watchResumesUptoRow : OpenClaim := { program := "ytdgkdfmfoonbpaagreat", sum := "e8dfc17857a1cfb66e583893725e16c67cecb02ae7534d416e33c8d5291f148e", func := "chancery/chancerylaw15.WatchResumes", spec := "watchResumes", inPlace := ["internal/bytealg.IndexByteString"], unfollowed := true, recurses := true, apart := false, narrowed := true }
def WatchResumesUptoSaid : Prop := watchResumesUptoRow.holds Tryz.pinned (OpenSpec.upto watchResumesSpec)

/-- 'chancerylaw15.WatchCounts', WHERE WHAT IT READS IS OF BULK AT MOST 1048576: true; the input reads as it did. -/
def watchCountsUptoRow : OpenClaim := { program := "ytdgkdfmfoonbpaagreat", sum := "e8dfc17857a1cfb66e583893725e16c67cecb02ae7534d416e33c8d5291f148e", func := "chancery/chancerylaw15.WatchCounts", spec := "watchCounts", inPlace := ["internal/bytealg.IndexByteString"], unfollowed := true, recurses := true, apart := false, narrowed := true }
def WatchCountsUptoSaid : Prop := watchCountsUptoRow.holds Tryz.pinned (OpenSpec.upto watchCountsSpec)

/-- 'chancerylaw15.WatchStill', WHERE WHAT IT READS IS OF BULK AT MOST 1048576: true; the input reads as it did. -/
def watchStillUptoRow : OpenClaim := { program := "ytdgkdfmfoonbpaagreat", sum := "e8dfc17857a1cfb66e583893725e16c67cecb02ae7534d416e33c8d5291f148e", func := "chancery/chancerylaw15.WatchStill", spec := "watchStill", inPlace := ["internal/bytealg.IndexByteString"], unfollowed := true, recurses := true, apart := false, narrowed := true }
def WatchStillUptoSaid : Prop := watchStillUptoRow.holds Tryz.pinned (OpenSpec.upto watchStillSpec)

/-- 'chancerylaw15.WatchPlays', WHERE WHAT IT READS IS OF BULK AT MOST 1048576: true; the input reads as it did. -/
def watchPlaysUptoRow : OpenClaim := { program := "ytdgkdfmfoonbpaagreat", sum := "e8dfc17857a1cfb66e583893725e16c67cecb02ae7534d416e33c8d5291f148e", func := "chancery/chancerylaw15.WatchPlays", spec := "watchPlays", inPlace := ["internal/bytealg.IndexByteString"], unfollowed := true, recurses := true, apart := false, narrowed := true }
def WatchPlaysUptoSaid : Prop := watchPlaysUptoRow.holds Tryz.pinned (OpenSpec.upto watchPlaysSpec)

end Rows
end Go.Proofs.YtdgkdfmfoonbpaaGreat
