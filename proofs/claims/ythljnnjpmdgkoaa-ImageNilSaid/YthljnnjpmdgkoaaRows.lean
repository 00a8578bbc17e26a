/-
  No cell of these rows narrows 'for every input' (looked for: loops, veiled, ifaces, maps, wideKeys, modest, calm, conditions, laid).
  DERIVED. THE GIVEN ROWS OF THIS SEAT. 9 by the template 'for every input the law returns true; each argument reads behind the call as it read before'; 0 by the template 'total and deterministic' (their statements: YthljnnjpmdgkoaaTotals.lean).
  GIVEN WITH THE SEED: the statements are not yours to turn. If you find one false, say at which input.
  Laid BY PROGRAM, IN A SANDBOX (cutbox-rows.mjs): the forced cells as the released guide's own fill.sh prints them over the translation bfd35fe97ccb1ff2… (all of the seat's roots in one cut). By AI agents, Wed Nov 11 2026. No macro, syntax, notation, axiom, sorry.
-/
import Derived.Test.YthljnnjpmdgkoaaChecked
import GoSem.Claim
import GoSem.ClaimJoined
import GoSem.ClaimMapViews
import Derived.JoinedTies
import Derived.KernelRfl
namespace Go.Proofs.Ythljnnjpmdgkoaa
/- THE CELL 'sum', in the pinned program and in every row, IS THE sha256 OF THE DUMP (.gsa) THAT YthljnnjpmdgkoaaProg.lean LOADS. Nothing in Lean hashes anything: it is a label: what it is worth is what the hold of that sum in a sandbox is worth. -/
noncomputable def Try.pinned : Pinned := { name := "ythljnnjpmdgkoaa", sum := "bfd35fe97ccb1ff2c18e50cf9f7b9eb5641b237082ff090a4027a127ffd22056", checked := Try.checked }
namespace Rows
def none {H : Type} : Left H := { results := [], args := [] }

/-- 'chancerylaw12.TxnChecks': WHATEVER THE INPUT: true; the input reads as it did. -/
def txnChecksSpec : ChangeSpec := { name := "txnChecks", fn := fun _ => fun
  | [d] => { results := [.lit (.bool true)], args := [d] }
  | _ => none }
def txnChecksRow : OpenClaim := { program := "ythljnnjpmdgkoaa", sum := "bfd35fe97ccb1ff2c18e50cf9f7b9eb5641b237082ff090a4027a127ffd22056", func := "chancery/chancerylaw12.TxnChecks", spec := "txnChecks", inPlace := ["internal/bytealg.IndexByteString"], unfollowed := true, recurses := true, apart := false }
def TxnChecksSaid : Prop := txnChecksRow.holds Try.pinned (OpenSpec.ofChange txnChecksSpec)

/-- ITS FALSE NEIGHBOUR: 'it returns false'. Refute it at one input. -/
def txnChecksWrong : ChangeSpec := { name := "txnChecks", fn := fun _ => fun
  | [d] => { results := [.lit (.bool false)], args := [d] }
  | _ => none }
def TxnChecksWrongFalsely : Prop := txnChecksRow.holds Try.pinned (OpenSpec.ofChange txnChecksWrong)

/-- 'chancerylaw12.TxnNil': WHATEVER THE INPUT: true; the input reads as it did. -/
def txnNilSpec : ChangeSpec := { name := "txnNil", fn := fun _ => fun
  | [d] => { results := [.lit (.bool true)], args := [d] }
  | _ => none }
def txnNilRow : OpenClaim := { program := "ythljnnjpmdgkoaa", sum := "bfd35fe97ccb1ff2c18e50cf9f7b9eb5641b237082ff090a4027a127ffd22056", func := "chancery/chancerylaw12.TxnNil", spec := "txnNil", inPlace := ["internal/bytealg.IndexByteString"], unfollowed := true, recurses := true, apart := false }
def TxnNilSaid : Prop := txnNilRow.holds Try.pinned (OpenSpec.ofChange txnNilSpec)

/-- ITS FALSE NEIGHBOUR: 'it returns false'. Refute it at one input. -/
def txnNilWrong : ChangeSpec := { name := "txnNil", fn := fun _ => fun
  | [d] => { results := [.lit (.bool false)], args := [d] }
  | _ => none }
def TxnNilWrongFalsely : Prop := txnNilRow.holds Try.pinned (OpenSpec.ofChange txnNilWrong)

/-- 'chancerylaw11.StoreChecks': WHATEVER THE INPUT: true; the input reads as it did. -/
def storeChecksSpec : ChangeSpec := { name := "storeChecks", fn := fun _ => fun
  | [d1, d2] => { results := [.lit (.bool true)], args := [d1, d2] }
  | _ => none }
def storeChecksRow : OpenClaim := { program := "ythljnnjpmdgkoaa", sum := "bfd35fe97ccb1ff2c18e50cf9f7b9eb5641b237082ff090a4027a127ffd22056", func := "chancery/chancerylaw11.StoreChecks", spec := "storeChecks", inPlace := ["internal/bytealg.IndexByteString"], unfollowed := true, recurses := true, apart := false }
def StoreChecksSaid : Prop := storeChecksRow.holds Try.pinned (OpenSpec.ofChange storeChecksSpec)

/-- ITS FALSE NEIGHBOUR: 'it returns false'. Refute it at one input. -/
def storeChecksWrong : ChangeSpec := { name := "storeChecks", fn := fun _ => fun
  | [d1, d2] => { results := [.lit (.bool false)], args := [d1, d2] }
  | _ => none }
def StoreChecksWrongFalsely : Prop := storeChecksRow.holds Try.pinned (OpenSpec.ofChange storeChecksWrong)

/-- 'chancerylaw13.ImageNil': WHATEVER THE INPUT: true; the input reads as it did. -/
def imageNilSpec : ChangeSpec := { name := "imageNil", fn := fun _ => fun
  | [] => { results := [.lit (.bool true)], args := [] }
  | _ => none }
def imageNilRow : OpenClaim := { program := "ythljnnjpmdgkoaa", sum := "bfd35fe97ccb1ff2c18e50cf9f7b9eb5641b237082ff090a4027a127ffd22056", func := "chancery/chancerylaw13.ImageNil", spec := "imageNil", inPlace := ["internal/abi.NoEscape", "internal/bytealg.IndexByteString"], unfollowed := true, recurses := true, apart := false }
def ImageNilSaid : Prop := imageNilRow.holds Try.pinned (OpenSpec.ofChange imageNilSpec)

/-- ITS FALSE NEIGHBOUR: 'it returns false'. Refute it at one input. -/
def imageNilWrong : ChangeSpec := { name := "imageNil", fn := fun _ => fun
  | [] => { results := [.lit (.bool false)], args := [] }
  | _ => none }
def ImageNilWrongFalsely : Prop := imageNilRow.holds Try.pinned (OpenSpec.ofChange imageNilWrong)

/-- 'chancerylaw11.StoreAsks': WHATEVER THE INPUT: true; the input reads as it did. -/
def storeAsksSpec : ChangeSpec := { name := "storeAsks", fn := fun _ => fun
  | [d1, d2] => { results := [.lit (.bool true)], args := [d1, d2] }
  | _ => none }
def storeAsksRow : OpenClaim := { program := "ythljnnjpmdgkoaa", sum := "bfd35fe97ccb1ff2c18e50cf9f7b9eb5641b237082ff090a4027a127ffd22056", func := "chancery/chancerylaw11.StoreAsks", spec := "storeAsks", inPlace := ["internal/bytealg.IndexByteString"], unfollowed := true, recurses := true, apart := false }
def StoreAsksSaid : Prop := storeAsksRow.holds Try.pinned (OpenSpec.ofChange storeAsksSpec)

/-- ITS FALSE NEIGHBOUR: 'it returns false'. Refute it at one input. -/
def storeAsksWrong : ChangeSpec := { name := "storeAsks", fn := fun _ => fun
  | [d1, d2] => { results := [.lit (.bool false)], args := [d1, d2] }
  | _ => none }
def StoreAsksWrongFalsely : Prop := storeAsksRow.holds Try.pinned (OpenSpec.ofChange storeAsksWrong)

/-- 'chancerylaw11.StorePast': WHATEVER THE INPUT: true; the input reads as it did. -/
def storePastSpec : ChangeSpec := { name := "storePast", fn := fun _ => fun
  | [d] => { results := [.lit (.bool true)], args := [d] }
  | _ => none }
def storePastRow : OpenClaim := { program := "ythljnnjpmdgkoaa", sum := "bfd35fe97ccb1ff2c18e50cf9f7b9eb5641b237082ff090a4027a127ffd22056", func := "chancery/chancerylaw11.StorePast", spec := "storePast", inPlace := ["internal/bytealg.IndexByteString"], unfollowed := true, recurses := true, apart := false }
def StorePastSaid : Prop := storePastRow.holds Try.pinned (OpenSpec.ofChange storePastSpec)

/-- ITS FALSE NEIGHBOUR: 'it returns false'. Refute it at one input. -/
def storePastWrong : ChangeSpec := { name := "storePast", fn := fun _ => fun
  | [d] => { results := [.lit (.bool false)], args := [d] }
  | _ => none }
def StorePastWrongFalsely : Prop := storePastRow.holds Try.pinned (OpenSpec.ofChange storePastWrong)

/-- 'chancerylaw11.StoreFolds': WHATEVER THE INPUT: true; the input reads as it did. -/
def storeFoldsSpec : ChangeSpec := { name := "storeFolds", fn := fun _ => fun
  | [d] => { results := [.lit (.bool true)], args := [d] }
  | _ => none }
def storeFoldsRow : OpenClaim := { program := "ythljnnjpmdgkoaa", sum := "bfd35fe97ccb1ff2c18e50cf9f7b9eb5641b237082ff090a4027a127ffd22056", func := "chancery/chancerylaw11.StoreFolds", spec := "storeFolds", inPlace := ["internal/bytealg.IndexByteString"], unfollowed := true, recurses := true, apart := false }
def StoreFoldsSaid : Prop := storeFoldsRow.holds Try.pinned (OpenSpec.ofChange storeFoldsSpec)

/-- ITS FALSE NEIGHBOUR: 'it returns false'. Refute it at one input. -/
def storeFoldsWrong : ChangeSpec := { name := "storeFolds", fn := fun _ => fun
  | [d] => { results := [.lit (.bool false)], args := [d] }
  | _ => none }
def StoreFoldsWrongFalsely : Prop := storeFoldsRow.holds Try.pinned (OpenSpec.ofChange storeFoldsWrong)

/-- 'chancerylaw11.StoreRefuses': WHATEVER THE INPUT: true; the input reads as it did. -/
def storeRefusesSpec : ChangeSpec := { name := "storeRefuses", fn := fun _ => fun
  | [d1, d2] => { results := [.lit (.bool true)], args := [d1, d2] }
  | _ => none }
def storeRefusesRow : OpenClaim := { program := "ythljnnjpmdgkoaa", sum := "bfd35fe97ccb1ff2c18e50cf9f7b9eb5641b237082ff090a4027a127ffd22056", func := "chancery/chancerylaw11.StoreRefuses", spec := "storeRefuses", inPlace := ["internal/bytealg.IndexByteString"], unfollowed := true, recurses := true, apart := false }
def StoreRefusesSaid : Prop := storeRefusesRow.holds Try.pinned (OpenSpec.ofChange storeRefusesSpec)

/-- ITS FALSE NEIGHBOUR: 'it returns false'. Refute it at one input. -/
def storeRefusesWrong : ChangeSpec := { name := "storeRefuses", fn := fun _ => fun
  | [d1, d2] => { results := [.lit (.bool false)], args := [d1, d2] }
  | _ => none }
def StoreRefusesWrongFalsely : Prop := storeRefusesRow.holds Try.pinned (OpenSpec.ofChange storeRefusesWrong)

/-- 'chancerylaw11.StoreNil': WHATEVER THE INPUT: true; the input reads as it did. -/
def storeNilSpec : ChangeSpec := { name := "storeNil", fn := fun _ => fun
  | [d] => { results := [.lit (.bool true)], args := [d] }
  | _ => none }
def storeNilRow : OpenClaim := { program := "ythljnnjpmdgkoaa", sum := "bfd35fe97ccb1ff2c18e50cf9f7b9eb5641b237082ff090a4027a127ffd22056", func := "chancery/chancerylaw11.StoreNil", spec := "storeNil", inPlace := ["internal/bytealg.IndexByteString"], unfollowed := true, recurses := true, apart := false }
def StoreNilSaid : Prop := storeNilRow.holds Try.pinned (OpenSpec.ofChange storeNilSpec)

/-- ITS FALSE NEIGHBOUR: 'it returns false'. Refute it at one input. -/
def storeNilWrong : ChangeSpec := { name := "storeNil", fn := fun _ => fun
  | [d] => { results := [.lit (.bool false)], args := [d] }
  | _ => none }
def StoreNilWrongFalsely : Prop := storeNilRow.holds Try.pinned (OpenSpec.ofChange storeNilWrong)

/- THE SECOND FORM. 'bulk': how many values and letters a reading holds, each counted each time it is reached (what is shared counts as often as it is met; a slice's spare places count too). A statement '..UptoSaid' is the law's where the arguments, and the package variables that the reading takes, are together of bulk at most 1048576: NARROWER than '..Said'. Prove '..Said' where nothing that the law and all that it calls make is longer than what came in: it says more and counts as full. Else prove '..UptoSaid'. A law counts once. -/
mutual
def uptoBulk {H : Type} : DataW H → Nat
  | .lit (.string bytes) => bytes.length + 1
  | .lit _ => 1
  | .nil => 1
  | .ptr d => uptoBulk d + 1
  | .slice elems spare => uptoBulkAll elems + uptoBulkAll spare + 1
  | .agg parts => uptoBulkAll parts + 1
  | .iface _ d => uptoBulk d + 1
  | .map entries => uptoBulkEntries entries + 1
  | .held _ => 1
def uptoBulkAll {H : Type} : List (DataW H) → Nat
  | [] => 0
  | d :: r => uptoBulk d + uptoBulkAll r
def uptoBulkEntries {H : Type} : List (Lit × DataW H) → Nat
  | [] => 0
  | x :: r => uptoBulkEntry x + uptoBulkEntries r
def uptoBulkEntry {H : Type} : Lit × DataW H → Nat
  | (.string bytes, d) => bytes.length + uptoBulk d + 1
  | (_, d) => uptoBulk d + 1
 end
def uptoSmall : (H : Type) → List (DataW H) → Bool := fun _ ds => decide (uptoBulkAll ds ≤ 1048576)
def OpenSpec.upto (s : _root_.Go.ChangeSpec) : _root_.Go.OpenSpec := { _root_.Go.OpenSpec.ofChange s with cond := some uptoSmall }

/-- 'chancerylaw12.TxnChecks', WHERE WHAT IT READS IS OF BULK AT MOST 1048576: true; the input reads as it did. -/
def txnChecksUptoRow : OpenClaim := { program := "ythljnnjpmdgkoaa", sum := "bfd35fe97ccb1ff2c18e50cf9f7b9eb5641b237082ff090a4027a127ffd22056", func := "chancery/chancerylaw12.TxnChecks", spec := "txnChecks", inPlace := ["internal/bytealg.IndexByteString"], unfollowed := true, recurses := true, apart := false, narrowed := true }
def TxnChecksUptoSaid : Prop := txnChecksUptoRow.holds Try.pinned (OpenSpec.upto txnChecksSpec)

/-- 'chancerylaw12.TxnNil', WHERE WHAT IT READS IS OF BULK AT MOST 1048576: true; the input reads as it did. -/
def txnNilUptoRow : OpenClaim := { program := "ythljnnjpmdgkoaa", sum := "bfd35fe97ccb1ff2c18e50cf9f7b9eb5641b237082ff090a4027a127ffd22056", func := "chancery/chancerylaw12.TxnNil", spec := "txnNil", inPlace := ["internal/bytealg.IndexByteString"], unfollowed := true, recurses := true, apart := false, narrowed := true }
def TxnNilUptoSaid : Prop := txnNilUptoRow.holds Try.pinned (OpenSpec.upto txnNilSpec)

/-- 'chancerylaw11.StoreChecks', WHERE WHAT IT READS IS OF BULK AT MOST 1048576: true; the input reads as it did. -/
def storeChecksUptoRow : OpenClaim := { program := "ythljnnjpmdgkoaa", sum := "bfd35fe97ccb1ff2c18e50cf9f7b9eb5641b237082ff090a4027a127ffd22056", func := "chancery/chancerylaw11.StoreChecks", spec := "storeChecks", inPlace := ["internal/bytealg.IndexByteString"], unfollowed := true, recurses := true, apart := false, narrowed := true }
def StoreChecksUptoSaid : Prop := storeChecksUptoRow.holds Try.pinned (OpenSpec.upto storeChecksSpec)

/-- 'chancerylaw13.ImageNil', WHERE WHAT IT READS IS OF BULK AT MOST 1048576: true; the input reads as it did. -/
def imageNilUptoRow : OpenClaim := { program := "ythljnnjpmdgkoaa", sum := "bfd35fe97ccb1ff2c18e50cf9f7b9eb5641b237082ff090a4027a127ffd22056", func := "chancery/chancerylaw13.ImageNil", spec := "imageNil", inPlace := ["internal/abi.NoEscape", "internal/bytealg.IndexByteString"], unfollowed := true, recurses := true, apart := false, narrowed := true }
def ImageNilUptoSaid : Prop := imageNilUptoRow.holds Try.pinned (OpenSpec.upto imageNilSpec)

/-- 'chancerylaw11.StoreAsks', WHERE WHAT IT READS IS OF BULK AT MOST 1048576: true; the input reads as it did. -/
def storeAsksUptoRow : OpenClaim := { program := "ythljnnjpmdgkoaa", sum := "bfd35fe97ccb1ff2c18e50cf9f7b9eb5641b237082ff090a4027a127ffd22056", func := "chancery/chancerylaw11.StoreAsks", spec := "storeAsks", inPlace := ["internal/bytealg.IndexByteString"], unfollowed := true, recurses := true, apart := false, narrowed := true }
def StoreAsksUptoSaid : Prop := storeAsksUptoRow.holds Try.pinned (OpenSpec.upto storeAsksSpec)

/-- 'chancerylaw11.StorePast', WHERE WHAT IT READS IS OF BULK AT MOST 1048576: true; the input reads as it did. -/
def storePastUptoRow : OpenClaim := { program := "ythljnnjpmdgkoaa", sum := "bfd35fe97ccb1ff2c18e50cf9f7b9eb5641b237082ff090a4027a127ffd22056", func := "chancery/chancerylaw11.StorePast", spec := "storePast", inPlace := ["internal/bytealg.IndexByteString"], unfollowed := true, recurses := true, apart := false, narrowed := true }
def StorePastUptoSaid : Prop := storePastUptoRow.holds Try.pinned (OpenSpec.upto storePastSpec)

/-- 'chancerylaw11.StoreFolds', WHERE WHAT IT READS IS OF BULK AT MOST 1048576: true; the input reads as it did. -/
def storeFoldsUptoRow : OpenClaim := { program := "ythljnnjpmdgkoaa", sum := "bfd35fe97ccb1ff2c18e50cf9f7b9eb5641b237082ff090a4027a127ffd22056", func := "chancery/chancerylaw11.StoreFolds", spec := "storeFolds", inPlace := ["internal/bytealg.IndexByteString"], unfollowed := true, recurses := true, apart := false, narrowed := true }
def StoreFoldsUptoSaid : Prop := storeFoldsUptoRow.holds Try.pinned (OpenSpec.upto storeFoldsSpec)

/-- 'chancerylaw11.StoreRefuses', WHERE WHAT IT READS IS OF BULK AT MOST 1048576: true; the input reads as it did. -/
def storeRefusesUptoRow : OpenClaim := { program := "ythljnnjpmdgkoaa", sum := "bfd35fe97ccb1ff2c18e50cf9f7b9eb5641b237082ff090a4027a127ffd22056", func := "chancery/chancerylaw11.StoreRefuses", spec := "storeRefuses", inPlace := ["internal/bytealg.IndexByteString"], unfollowed := true, recurses := true, apart := false, narrowed := true }
def StoreRefusesUptoSaid : Prop := storeRefusesUptoRow.holds Try.pinned (OpenSpec.upto storeRefusesSpec)

/-- 'chancerylaw11.StoreNil', WHERE WHAT IT READS IS OF BULK AT MOST 1048576: true; the input reads as it did. -/
def storeNilUptoRow : OpenClaim := { program := "ythljnnjpmdgkoaa", sum := "bfd35fe97ccb1ff2c18e50cf9f7b9eb5641b237082ff090a4027a127ffd22056", func := "chancery/chancerylaw11.StoreNil", spec := "storeNil", inPlace := ["internal/bytealg.IndexByteString"], unfollowed := true, recurses := true, apart := false, narrowed := true }
def StoreNilUptoSaid : Prop := storeNilUptoRow.holds Try.pinned (OpenSpec.upto storeNilSpec)

end Rows
end Go.Proofs.Ythljnnjpmdgkoaa
