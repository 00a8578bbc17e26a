/-
  No cell of these rows narrows 'for every input' (looked for: loops, veiled, ifaces, maps, wideKeys, modest, calm, conditions, laid).
  DERIVED. THE GIVEN ROWS OF THIS SEAT. 12 by the template 'for every input the law returns true; each argument reads behind the call as it read before'; 0 by the template 'total and deterministic' (their statements: YthljnnjpmdgkoaaGreatTotals.lean).
  GIVEN WITH THE SEED: the statements are not yours to turn. If you find one false, say at which input.
  Laid BY PROGRAM, IN A SANDBOX (cutbox-rows.mjs): the forced cells as the released guide's own fill.sh prints them over the translation 7412dbc7378765af… (all of the seat's roots in one cut). By AI agents, Wed Nov 11 2026. No macro, syntax, notation, axiom, sorry.
-/
import Derived.Test.YthljnnjpmdgkoaaGreatChecked
import GoSem.Claim
import GoSem.ClaimJoined
import GoSem.ClaimMapViews
import Derived.JoinedTies
import Derived.KernelRfl
namespace Go.Proofs.YthljnnjpmdgkoaaGreat
/- THE CELL 'sum', in the pinned program and in every row, IS THE sha256 OF THE DUMP (.gsa) THAT YthljnnjpmdgkoaaGreatProg.lean LOADS. Nothing in Lean hashes anything: it is a label: what it is worth is what the hold of that sum in a sandbox is worth. -/
noncomputable def Tryz.pinned : Pinned := { name := "ythljnnjpmdgkoaagreat", sum := "7412dbc7378765af238a8d55cd4573a7ed9f422a9962c6df764fd11a1275f99d", checked := Tryz.checked }
namespace Rows
def none {H : Type} : Left H := { results := [], args := [] }

/-- 'chancerylaw11.StorePlays': WHATEVER THE INPUT: true; the input reads as it did. -/
def storePlaysSpec : ChangeSpec := { name := "storePlays", fn := fun _ => fun
  | [d] => { results := [.lit (.bool true)], args := [d] }
  | _ => none }
def storePlaysRow : OpenClaim := { program := "ythljnnjpmdgkoaagreat", sum := "7412dbc7378765af238a8d55cd4573a7ed9f422a9962c6df764fd11a1275f99d", func := "chancery/chancerylaw11.StorePlays", spec := "storePlays", inPlace := ["internal/bytealg.IndexByteString"], unfollowed := true, recurses := true, apart := false }
def StorePlaysSaid : Prop := storePlaysRow.holds Tryz.pinned (OpenSpec.ofChange storePlaysSpec)

/-- ITS FALSE NEIGHBOUR: 'it returns false'. Refute it at one input. -/
def storePlaysWrong : ChangeSpec := { name := "storePlays", fn := fun _ => fun
  | [d] => { results := [.lit (.bool false)], args := [d] }
  | _ => none }
def StorePlaysWrongFalsely : Prop := storePlaysRow.holds Tryz.pinned (OpenSpec.ofChange storePlaysWrong)

/-- 'chancerylaw11.StoreMade': WHATEVER THE INPUT: true; the input reads as it did. -/
def storeMadeSpec : ChangeSpec := { name := "storeMade", fn := fun _ => fun
  | [d1, d2] => { results := [.lit (.bool true)], args := [d1, d2] }
  | _ => none }
def storeMadeRow : OpenClaim := { program := "ythljnnjpmdgkoaagreat", sum := "7412dbc7378765af238a8d55cd4573a7ed9f422a9962c6df764fd11a1275f99d", func := "chancery/chancerylaw11.StoreMade", spec := "storeMade", inPlace := ["internal/bytealg.IndexByteString"], unfollowed := true, recurses := true, apart := false }
def StoreMadeSaid : Prop := storeMadeRow.holds Tryz.pinned (OpenSpec.ofChange storeMadeSpec)

/-- ITS FALSE NEIGHBOUR: 'it returns false'. Refute it at one input. -/
def storeMadeWrong : ChangeSpec := { name := "storeMade", fn := fun _ => fun
  | [d1, d2] => { results := [.lit (.bool false)], args := [d1, d2] }
  | _ => none }
def StoreMadeWrongFalsely : Prop := storeMadeRow.holds Tryz.pinned (OpenSpec.ofChange storeMadeWrong)

/-- 'chancerylaw11.StoreBack': WHATEVER THE INPUT: true; the input reads as it did. -/
def storeBackSpec : ChangeSpec := { name := "storeBack", fn := fun _ => fun
  | [d1, d2] => { results := [.lit (.bool true)], args := [d1, d2] }
  | _ => none }
def storeBackRow : OpenClaim := { program := "ythljnnjpmdgkoaagreat", sum := "7412dbc7378765af238a8d55cd4573a7ed9f422a9962c6df764fd11a1275f99d", func := "chancery/chancerylaw11.StoreBack", spec := "storeBack", inPlace := ["internal/bytealg.IndexByteString"], unfollowed := true, recurses := true, apart := false }
def StoreBackSaid : Prop := storeBackRow.holds Tryz.pinned (OpenSpec.ofChange storeBackSpec)

/-- ITS FALSE NEIGHBOUR: 'it returns false'. Refute it at one input. -/
def storeBackWrong : ChangeSpec := { name := "storeBack", fn := fun _ => fun
  | [d1, d2] => { results := [.lit (.bool false)], args := [d1, d2] }
  | _ => none }
def StoreBackWrongFalsely : Prop := storeBackRow.holds Tryz.pinned (OpenSpec.ofChange storeBackWrong)

/-- 'chancerylaw12.TxnHolds': WHATEVER THE INPUT: true; the input reads as it did. -/
def txnHoldsSpec : ChangeSpec := { name := "txnHolds", fn := fun _ => fun
  | [d1, d2] => { results := [.lit (.bool true)], args := [d1, d2] }
  | _ => none }
def txnHoldsRow : OpenClaim := { program := "ythljnnjpmdgkoaagreat", sum := "7412dbc7378765af238a8d55cd4573a7ed9f422a9962c6df764fd11a1275f99d", func := "chancery/chancerylaw12.TxnHolds", spec := "txnHolds", inPlace := ["internal/bytealg.IndexByteString"], unfollowed := true, recurses := true, apart := false }
def TxnHoldsSaid : Prop := txnHoldsRow.holds Tryz.pinned (OpenSpec.ofChange txnHoldsSpec)

/-- ITS FALSE NEIGHBOUR: 'it returns false'. Refute it at one input. -/
def txnHoldsWrong : ChangeSpec := { name := "txnHolds", fn := fun _ => fun
  | [d1, d2] => { results := [.lit (.bool false)], args := [d1, d2] }
  | _ => none }
def TxnHoldsWrongFalsely : Prop := txnHoldsRow.holds Tryz.pinned (OpenSpec.ofChange txnHoldsWrong)

/-- 'chancerylaw12.TxnRuns': WHATEVER THE INPUT: true; the input reads as it did. -/
def txnRunsSpec : ChangeSpec := { name := "txnRuns", fn := fun _ => fun
  | [d1, d2] => { results := [.lit (.bool true)], args := [d1, d2] }
  | _ => none }
def txnRunsRow : OpenClaim := { program := "ythljnnjpmdgkoaagreat", sum := "7412dbc7378765af238a8d55cd4573a7ed9f422a9962c6df764fd11a1275f99d", func := "chancery/chancerylaw12.TxnRuns", spec := "txnRuns", inPlace := ["internal/bytealg.IndexByteString"], unfollowed := true, recurses := true, apart := false }
def TxnRunsSaid : Prop := txnRunsRow.holds Tryz.pinned (OpenSpec.ofChange txnRunsSpec)

/-- ITS FALSE NEIGHBOUR: 'it returns false'. Refute it at one input. -/
def txnRunsWrong : ChangeSpec := { name := "txnRuns", fn := fun _ => fun
  | [d1, d2] => { results := [.lit (.bool false)], args := [d1, d2] }
  | _ => none }
def TxnRunsWrongFalsely : Prop := txnRunsRow.holds Tryz.pinned (OpenSpec.ofChange txnRunsWrong)

/-- 'chancerylaw12.TxnBranch': WHATEVER THE INPUT: true; the input reads as it did. -/
def txnBranchSpec : ChangeSpec := { name := "txnBranch", fn := fun _ => fun
  | [d1, d2] => { results := [.lit (.bool true)], args := [d1, d2] }
  | _ => none }
def txnBranchRow : OpenClaim := { program := "ythljnnjpmdgkoaagreat", sum := "7412dbc7378765af238a8d55cd4573a7ed9f422a9962c6df764fd11a1275f99d", func := "chancery/chancerylaw12.TxnBranch", spec := "txnBranch", inPlace := ["internal/bytealg.IndexByteString"], unfollowed := true, recurses := true, apart := false }
def TxnBranchSaid : Prop := txnBranchRow.holds Tryz.pinned (OpenSpec.ofChange txnBranchSpec)

/-- ITS FALSE NEIGHBOUR: 'it returns false'. Refute it at one input. -/
def txnBranchWrong : ChangeSpec := { name := "txnBranch", fn := fun _ => fun
  | [d1, d2] => { results := [.lit (.bool false)], args := [d1, d2] }
  | _ => none }
def TxnBranchWrongFalsely : Prop := txnBranchRow.holds Tryz.pinned (OpenSpec.ofChange txnBranchWrong)

/-- 'chancerylaw12.TxnSides': WHATEVER THE INPUT: true; the input reads as it did. -/
def txnSidesSpec : ChangeSpec := { name := "txnSides", fn := fun _ => fun
  | [d1, d2, d3, d4] => { results := [.lit (.bool true)], args := [d1, d2, d3, d4] }
  | _ => none }
def txnSidesRow : OpenClaim := { program := "ythljnnjpmdgkoaagreat", sum := "7412dbc7378765af238a8d55cd4573a7ed9f422a9962c6df764fd11a1275f99d", func := "chancery/chancerylaw12.TxnSides", spec := "txnSides", inPlace := ["internal/bytealg.IndexByteString"], unfollowed := true, recurses := true, apart := false }
def TxnSidesSaid : Prop := txnSidesRow.holds Tryz.pinned (OpenSpec.ofChange txnSidesSpec)

/-- ITS FALSE NEIGHBOUR: 'it returns false'. Refute it at one input. -/
def txnSidesWrong : ChangeSpec := { name := "txnSides", fn := fun _ => fun
  | [d1, d2, d3, d4] => { results := [.lit (.bool false)], args := [d1, d2, d3, d4] }
  | _ => none }
def TxnSidesWrongFalsely : Prop := txnSidesRow.holds Tryz.pinned (OpenSpec.ofChange txnSidesWrong)

/-- 'chancerylaw13.ImageBytes': WHATEVER THE INPUT: true; the input reads as it did. -/
def imageBytesSpec : ChangeSpec := { name := "imageBytes", fn := fun _ => fun
  | [d] => { results := [.lit (.bool true)], args := [d] }
  | _ => none }
def imageBytesRow : OpenClaim := { program := "ythljnnjpmdgkoaagreat", sum := "7412dbc7378765af238a8d55cd4573a7ed9f422a9962c6df764fd11a1275f99d", func := "chancery/chancerylaw13.ImageBytes", spec := "imageBytes", inPlace := ["internal/bytealg.IndexByteString", "internal/abi.NoEscape"], unfollowed := true, recurses := true, apart := false }
def ImageBytesSaid : Prop := imageBytesRow.holds Tryz.pinned (OpenSpec.ofChange imageBytesSpec)

/-- ITS FALSE NEIGHBOUR: 'it returns false'. Refute it at one input. -/
def imageBytesWrong : ChangeSpec := { name := "imageBytes", fn := fun _ => fun
  | [d] => { results := [.lit (.bool false)], args := [d] }
  | _ => none }
def ImageBytesWrongFalsely : Prop := imageBytesRow.holds Tryz.pinned (OpenSpec.ofChange imageBytesWrong)

/-- 'chancerylaw13.ImageBack': WHATEVER THE INPUT: true; the input reads as it did. -/
def imageBackSpec : ChangeSpec := { name := "imageBack", fn := fun _ => fun
  | [d1, d2] => { results := [.lit (.bool true)], args := [d1, d2] }
  | _ => none }
def imageBackRow : OpenClaim := { program := "ythljnnjpmdgkoaagreat", sum := "7412dbc7378765af238a8d55cd4573a7ed9f422a9962c6df764fd11a1275f99d", func := "chancery/chancerylaw13.ImageBack", spec := "imageBack", inPlace := ["internal/bytealg.IndexByteString", "internal/abi.NoEscape"], unfollowed := true, recurses := true, apart := false }
def ImageBackSaid : Prop := imageBackRow.holds Tryz.pinned (OpenSpec.ofChange imageBackSpec)

/-- ITS FALSE NEIGHBOUR: 'it returns false'. Refute it at one input. -/
def imageBackWrong : ChangeSpec := { name := "imageBack", fn := fun _ => fun
  | [d1, d2] => { results := [.lit (.bool false)], args := [d1, d2] }
  | _ => none }
def ImageBackWrongFalsely : Prop := imageBackRow.holds Tryz.pinned (OpenSpec.ofChange imageBackWrong)

/-- 'chancerylaw13.ImageCuts': WHATEVER THE INPUT: true; the input reads as it did. -/
def imageCutsSpec : ChangeSpec := { name := "imageCuts", fn := fun _ => fun
  | [d1, d2, d3] => { results := [.lit (.bool true)], args := [d1, d2, d3] }
  | _ => none }
def imageCutsRow : OpenClaim := { program := "ythljnnjpmdgkoaagreat", sum := "7412dbc7378765af238a8d55cd4573a7ed9f422a9962c6df764fd11a1275f99d", func := "chancery/chancerylaw13.ImageCuts", spec := "imageCuts", inPlace := ["internal/bytealg.IndexByteString", "internal/abi.NoEscape"], unfollowed := true, recurses := true, apart := false }
def ImageCutsSaid : Prop := imageCutsRow.holds Tryz.pinned (OpenSpec.ofChange imageCutsSpec)

/-- ITS FALSE NEIGHBOUR: 'it returns false'. Refute it at one input. -/
def imageCutsWrong : ChangeSpec := { name := "imageCuts", fn := fun _ => fun
  | [d1, d2, d3] => { results := [.lit (.bool false)], args := [d1, d2, d3] }
  | _ => none }
def ImageCutsWrongFalsely : Prop := imageCutsRow.holds Tryz.pinned (OpenSpec.ofChange imageCutsWrong)

/-- 'chancerylaw13.ImageTwins': WHATEVER THE INPUT: true; the input reads as it did. -/
def imageTwinsSpec : ChangeSpec := { name := "imageTwins", fn := fun _ => fun
  | [d1, d2] => { results := [.lit (.bool true)], args := [d1, d2] }
  | _ => none }
def imageTwinsRow : OpenClaim := { program := "ythljnnjpmdgkoaagreat", sum := "7412dbc7378765af238a8d55cd4573a7ed9f422a9962c6df764fd11a1275f99d", func := "chancery/chancerylaw13.ImageTwins", spec := "imageTwins", inPlace := ["internal/bytealg.IndexByteString", "internal/abi.NoEscape"], unfollowed := true, recurses := true, apart := false }
def ImageTwinsSaid : Prop := imageTwinsRow.holds Tryz.pinned (OpenSpec.ofChange imageTwinsSpec)

/-- ITS FALSE NEIGHBOUR: 'it returns false'. Refute it at one input. -/
def imageTwinsWrong : ChangeSpec := { name := "imageTwins", fn := fun _ => fun
  | [d1, d2] => { results := [.lit (.bool false)], args := [d1, d2] }
  | _ => none }
def ImageTwinsWrongFalsely : Prop := imageTwinsRow.holds Tryz.pinned (OpenSpec.ofChange imageTwinsWrong)

/-- 'chancerylaw13.ImageTurned': WHATEVER THE INPUT: true; the input reads as it did. -/
def imageTurnedSpec : ChangeSpec := { name := "imageTurned", fn := fun _ => fun
  | [d1, d2, d3] => { results := [.lit (.bool true)], args := [d1, d2, d3] }
  | _ => none }
def imageTurnedRow : OpenClaim := { program := "ythljnnjpmdgkoaagreat", sum := "7412dbc7378765af238a8d55cd4573a7ed9f422a9962c6df764fd11a1275f99d", func := "chancery/chancerylaw13.ImageTurned", spec := "imageTurned", inPlace := ["internal/bytealg.IndexByteString", "internal/abi.NoEscape"], unfollowed := true, recurses := true, apart := false }
def ImageTurnedSaid : Prop := imageTurnedRow.holds Tryz.pinned (OpenSpec.ofChange imageTurnedSpec)

/-- ITS FALSE NEIGHBOUR: 'it returns false'. Refute it at one input. -/
def imageTurnedWrong : ChangeSpec := { name := "imageTurned", fn := fun _ => fun
  | [d1, d2, d3] => { results := [.lit (.bool false)], args := [d1, d2, d3] }
  | _ => none }
def ImageTurnedWrongFalsely : Prop := imageTurnedRow.holds Tryz.pinned (OpenSpec.ofChange imageTurnedWrong)

/- THE SECOND FORM. 'bulk': how many values and letters a reading holds, each counted each time it is reached (what is shared counts as often as it is met; a slice's spare places count too). A statement '..UptoSaid' is the law's where the arguments, and the package variables that the reading takes, are together of bulk at most 1048576: NARROWER than '..Said'. Prove '..Said' where nothing that the law and all that it calls make is longer than what came in: it says more and counts as full. Else prove '..UptoSaid'. A law counts once. -/
mutual
def uptoBulk {H : Type} : DataW H → Nat
  | .lit (.string bytes) => bytes.length + 1
  | .lit _ => 1
  | .nil => 1
  | .ptr d => uptoBulk d + 1
  | .slice elems spare => uptoBulkAll elems + uptoBulkAll spare + 1
  | .agg parts => uptoBulkAll parts + 1
  | .iface _ d => uptoBulk d + 1
  | .map entries => uptoBulkEntries entries + 1
  | .held _ => 1
def uptoBulkAll {H : Type} : List (DataW H) → Nat
  | [] => 0
  | d :: r => uptoBulk d + uptoBulkAll r
def uptoBulkEntries {H : Type} : List (Lit × DataW H) → Nat
  | [] => 0
  | x :: r => uptoBulkEntry x + uptoBulkEntries r
def uptoBulkEntry {H : Type} : Lit × DataW H → Nat
  | (.string bytes, d) => bytes.length + uptoBulk d + 1
  | (_, d) => uptoBulk d + 1
 end
def uptoSmall : (H : Type) → List (DataW H) → Bool := fun _ ds => decide (uptoBulkAll ds ≤ 1048576)
def OpenSpec.upto (s : _root_.Go.ChangeSpec) : _root_.Go.OpenSpec := { _root_.Go.OpenSpec.ofChange s with cond := some uptoSmall }

/-- 'chancerylaw11.StorePlays', WHERE WHAT IT READS IS OF BULK AT MOST 1048576: true; the input reads as it did. -/
def storePlaysUptoRow : OpenClaim := { program := "ythljnnjpmdgkoaagreat", sum := "7412dbc7378765af238a8d55cd4573a7ed9f422a9962c6df764fd11a1275f99d", func := "chancery/chancerylaw11.StorePlays", spec := "storePlays", inPlace := ["internal/bytealg.IndexByteString"], unfollowed := true, recurses := true, apart := false, narrowed := true }
def StorePlaysUptoSaid : Prop := storePlaysUptoRow.holds Tryz.pinned (OpenSpec.upto storePlaysSpec)

/-- 'chancerylaw11.StoreMade', WHERE WHAT IT READS IS OF BULK AT MOST 1048576: true; the input reads as it did. -/
def storeMadeUptoRow : OpenClaim := { program := "ythljnnjpmdgkoaagreat", sum := "7412dbc7378765af238a8d55cd4573a7ed9f422a9962c6df764fd11a1275f99d", func := "chancery/chancerylaw11.StoreMade", spec := "storeMade", inPlace := ["internal/bytealg.IndexByteString"], unfollowed := true, recurses := true, apart := false, narrowed := true }
def StoreMadeUptoSaid : Prop := storeMadeUptoRow.holds Tryz.pinned (OpenSpec.upto storeMadeSpec)

/-- 'chancerylaw11.StoreBack', WHERE WHAT IT READS IS OF BULK AT MOST 1048576: true; the input reads as it did. -/
def storeBackUptoRow : OpenClaim := { program := "ythljnnjpmdgkoaagreat", sum := "7412dbc7378765af238a8d55cd4573a7ed9f422a9962c6df764fd11a1275f99d", func := "chancery/chancerylaw11.StoreBack", spec := "storeBack", inPlace := ["internal/bytealg.IndexByteString"], unfollowed := true, recurses := true, apart := false, narrowed := true }
def StoreBackUptoSaid : Prop := storeBackUptoRow.holds Tryz.pinned (OpenSpec.upto storeBackSpec)

/-- 'chancerylaw12.TxnHolds', WHERE WHAT IT READS IS OF BULK AT MOST 1048576: true; the input reads as it did. -/
def txnHoldsUptoRow : OpenClaim := { program := "ythljnnjpmdgkoaagreat", sum := "7412dbc7378765af238a8d55cd4573a7ed9f422a9962c6df764fd11a1275f99d", func := "chancery/chancerylaw12.TxnHolds", spec := "txnHolds", inPlace := ["internal/bytealg.IndexByteString"], unfollowed := true, recurses := true, apart := false, narrowed := true }
def TxnHoldsUptoSaid : Prop := txnHoldsUptoRow.holds Tryz.pinned (OpenSpec.upto txnHoldsSpec)

/-- 'chancerylaw12.TxnRuns', WHERE WHAT IT READS IS OF BULK AT MOST 1048576: true; the input reads as it did. -/
def txnRunsUptoRow : OpenClaim := { program := "ythljnnjpmdgkoaagreat", sum := "7412dbc7378765af238a8d55cd4573a7ed9f422a9962c6df764fd11a1275f99d", func := "chancery/chancerylaw12.TxnRuns", spec := "txnRuns", inPlace := ["internal/bytealg.IndexByteString"], unfollowed := true, recurses := true, apart := false, narrowed := true }
def TxnRunsUptoSaid : Prop := txnRunsUptoRow.holds Tryz.pinned (OpenSpec.upto txnRunsSpec)

/-- 'chancerylaw12.TxnBranch', WHERE WHAT IT READS IS OF BULK AT MOST 1048576: true; the input reads as it did. -/
def txnBranchUptoRow : OpenClaim := { program := "ythljnnjpmdgkoaagreat", sum := "7412dbc7378765af238a8d55cd4573a7ed9f422a9962c6df764fd11a1275f99d", func := "chancery/chancerylaw12.TxnBranch", spec := "txnBranch", inPlace := ["internal/bytealg.IndexByteString"], unfollowed := true, recurses := true, apart := false, narrowed := true }
def TxnBranchUptoSaid : Prop := txnBranchUptoRow.holds Tryz.pinned (OpenSpec.upto txnBranchSpec)

/-- 'chancerylaw12.TxnSides', WHERE WHAT IT READS IS OF BULK AT MOST 1048576: true; the input reads as it did. -/
def txnSidesUptoRow : OpenClaim := { program := "ythljnnjpmdgkoaagreat", sum := "7412dbc7378765af238a8d55cd4573a7ed9f422a9962c6df764fd11a1275f99d", func := "chancery/chancerylaw12.TxnSides", spec := "txnSides", inPlace := ["internal/bytealg.IndexByteString"], unfollowed := true, recurses := true, apart := false, narrowed := true }
def TxnSidesUptoSaid : Prop := txnSidesUptoRow.holds Tryz.pinned (OpenSpec.upto txnSidesSpec)

/-- 'chancerylaw13.ImageBytes', WHERE WHAT IT READS IS OF BULK AT MOST 1048576: true; the input reads as it did. -/
def imageBytesUptoRow : OpenClaim := { program := "ythljnnjpmdgkoaagreat", sum := "7412dbc7378765af238a8d55cd4573a7ed9f422a9962c6df764fd11a1275f99d", func := "chancery/chancerylaw13.ImageBytes", spec := "imageBytes", inPlace := ["internal/bytealg.IndexByteString", "internal/abi.NoEscape"], unfollowed := true, recurses := true, apart := false, narrowed := true }
def ImageBytesUptoSaid : Prop := imageBytesUptoRow.holds Tryz.pinned (OpenSpec.upto imageBytesSpec)

/-- 'chancerylaw13.ImageBack', WHERE WHAT IT READS IS OF BULK AT MOST 1048576: true; the input reads as it did. -/
def imageBackUptoRow : OpenClaim := { program := "ythljnnjpmdgkoaagreat", sum := "7412dbc7378765af238a8d55cd4573a7ed9f422a9962c6df764fd11a1275f99d", func := "chancery/chancerylaw13.ImageBack", spec := "imageBack", inPlace := ["internal/bytealg.IndexByteString", "internal/abi.NoEscape"], unfollowed := true, recurses := true, apart := false, narrowed := true }
def ImageBackUptoSaid : Prop := imageBackUptoRow.holds Tryz.pinned (OpenSpec.upto imageBackSpec)

/-- 'chancerylaw13.ImageCuts', WHERE WHAT IT READS IS OF BULK AT MOST 1048576: true; the input reads as it did. -/
def imageCutsUptoRow : OpenClaim := { program := "ythljnnjpmdgkoaagreat", sum := "7412dbc7378765af238a8d55cd4573a7ed9f422a9962c6df764fd11a1275f99d", func := "chancery/chancerylaw13.ImageCuts", spec := "imageCuts", inPlace := ["internal/bytealg.IndexByteString", "internal/abi.NoEscape"], unfollowed := true, recurses := true, apart := false, narrowed := true }
def ImageCutsUptoSaid : Prop := imageCutsUptoRow.holds Tryz.pinned (OpenSpec.upto imageCutsSpec)

/-- 'chancerylaw13.ImageTwins', WHERE WHAT IT READS IS OF BULK AT MOST 1048576: true; the input reads as it did. -/
def imageTwinsUptoRow : OpenClaim := { program := "ythljnnjpmdgkoaagreat", sum := "7412dbc7378765af238a8d55cd4573a7ed9f422a9962c6df764fd11a1275f99d", func := "chancery/chancerylaw13.ImageTwins", spec := "imageTwins", inPlace := ["internal/bytealg.IndexByteString", "internal/abi.NoEscape"], unfollowed := true, recurses := true, apart := false, narrowed := true }
def ImageTwinsUptoSaid : Prop := imageTwinsUptoRow.holds Tryz.pinned (OpenSpec.upto imageTwinsSpec)

/-- 'chancerylaw13.ImageTurned', WHERE WHAT IT READS IS OF BULK AT MOST 1048576: true; the input reads as it did. -/
def imageTurnedUptoRow : OpenClaim := { program := "ythljnnjpmdgkoaagreat", sum := "7412dbc7378765af238a8d55cd4573a7ed9f422a9962c6df764fd11a1275f99d", func := "chancery/chancerylaw13.ImageTurned", spec := "imageTurned", inPlace := ["internal/bytealg.IndexByteString", "internal/abi.NoEscape"], unfollowed := true, recurses := true, apart := false, narrowed := true }
def ImageTurnedUptoSaid : Prop := imageTurnedUptoRow.holds Tryz.pinned (OpenSpec.upto imageTurnedSpec)

end Rows
end Go.Proofs.YthljnnjpmdgkoaaGreat
