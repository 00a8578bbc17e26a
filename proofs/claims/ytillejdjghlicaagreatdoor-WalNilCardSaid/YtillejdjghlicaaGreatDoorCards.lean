/-
  DERIVED. GIVEN WITH THE SEED: THE CARDS: each row of YtillejdjghlicaaGreatDoorRows.lean that lists a variable, with what it lists TIED to the program's text (the seventh form; the later family's looks); each row that meets fmt, with fmt's text TOLD by the authors' own Lean function (tested against real Go, not proved from fmt's source: count such statements apart). THE CARD IS WHAT COUNTS. Prove the row's statement (the work); the ties are given (YtillejdjghlicaaGreatDoorTie.lean); close each card by the builder's one call (the guide's Derived/Test/ToyasCard.lean, 'card_holds'). Laid BY PROGRAM, IN A SANDBOX (cutbox-door.mjs). By AI agents, Wed Nov 11 2026. No macro, syntax, notation, axiom, sorry.
-/
import Derived.Test.YtillejdjghlicaaGreatDoorRows
import GoSem.ClaimSeven
namespace Go.Proofs.YtillejdjghlicaaGreatDoor
namespace Rows

/-- THE TIED CARD OF 'chancerylaw06.WalTwice'. -/
def walTwiceCard : Claim7 := { stood := { row := walTwiceRow, standIns := [], harness := (true, "41bbf38aacde7d62fc28022f692ba6e0b2e9e85a7a6da319ae3aa82868a44313"), looks := true }, kinds := [], alts := [], laidByText := true, laidKinds := [.data, .data, .data, .data, .sentinel, .sentinel, .pinned], laidTests := true, laidLooks := .later }
def WalTwiceCardSaid : Prop := Claim7.holds Tryz.pinned (.plain (OpenSpec.ofChange walTwiceSpec)) walTwiceCard

/-- THE TIED CARD OF 'chancerylaw06.WalCuts'. -/
def walCutsCard : Claim7 := { stood := { row := walCutsRow, standIns := [], harness := (true, "41bbf38aacde7d62fc28022f692ba6e0b2e9e85a7a6da319ae3aa82868a44313"), looks := true }, kinds := [], alts := [], laidByText := true, laidKinds := [.data, .data, .data, .data, .sentinel, .sentinel, .pinned], laidTests := true, laidLooks := .later }
def WalCutsCardSaid : Prop := Claim7.holds Tryz.pinned (.plain (OpenSpec.ofChange walCutsSpec)) walCutsCard

/-- THE TIED CARD OF 'chancerylaw06.WalLasts'. -/
def walLastsCard : Claim7 := { stood := { row := walLastsRow, standIns := [], harness := (true, "41bbf38aacde7d62fc28022f692ba6e0b2e9e85a7a6da319ae3aa82868a44313"), looks := true }, kinds := [], alts := [], laidByText := true, laidKinds := [.data, .data, .data, .data, .sentinel, .sentinel, .pinned], laidTests := true, laidLooks := .later }
def WalLastsCardSaid : Prop := Claim7.holds Tryz.pinned (.plain (OpenSpec.ofChange walLastsSpec)) walLastsCard

/-- THE TIED CARD OF 'chancerylaw06.WalNil'. -/
def walNilCard : Claim7 := { stood := { row := walNilRow, standIns := [], harness := (true, "41bbf38aacde7d62fc28022f692ba6e0b2e9e85a7a6da319ae3aa82868a44313"), looks := true }, kinds := [], alts := [], laidByText := true, laidKinds := [.data, .data, .data, .data, .sentinel, .sentinel, .pinned], laidTests := true, laidLooks := .later }
def WalNilCardSaid : Prop := Claim7.holds Tryz.pinned (.plain (OpenSpec.ofChange walNilSpec)) walNilCard

/-- THE SECOND FORM's CARD OF 'chancerylaw06.WalTwice'. -/
def walTwiceUptoCard : Claim7 := { stood := { row := walTwiceUptoRow, standIns := [], harness := (true, "41bbf38aacde7d62fc28022f692ba6e0b2e9e85a7a6da319ae3aa82868a44313"), looks := true }, kinds := [], alts := [], laidByText := true, laidKinds := [.data, .data, .data, .data, .sentinel, .sentinel, .pinned], laidTests := true, laidLooks := .later }
def WalTwiceUptoCardSaid : Prop := Claim7.holds Tryz.pinned (.plain (OpenSpec.upto walTwiceSpec)) walTwiceUptoCard

/-- THE SECOND FORM's CARD OF 'chancerylaw06.WalCuts'. -/
def walCutsUptoCard : Claim7 := { stood := { row := walCutsUptoRow, standIns := [], harness := (true, "41bbf38aacde7d62fc28022f692ba6e0b2e9e85a7a6da319ae3aa82868a44313"), looks := true }, kinds := [], alts := [], laidByText := true, laidKinds := [.data, .data, .data, .data, .sentinel, .sentinel, .pinned], laidTests := true, laidLooks := .later }
def WalCutsUptoCardSaid : Prop := Claim7.holds Tryz.pinned (.plain (OpenSpec.upto walCutsSpec)) walCutsUptoCard

/-- THE SECOND FORM's CARD OF 'chancerylaw06.WalLasts'. -/
def walLastsUptoCard : Claim7 := { stood := { row := walLastsUptoRow, standIns := [], harness := (true, "41bbf38aacde7d62fc28022f692ba6e0b2e9e85a7a6da319ae3aa82868a44313"), looks := true }, kinds := [], alts := [], laidByText := true, laidKinds := [.data, .data, .data, .data, .sentinel, .sentinel, .pinned], laidTests := true, laidLooks := .later }
def WalLastsUptoCardSaid : Prop := Claim7.holds Tryz.pinned (.plain (OpenSpec.upto walLastsSpec)) walLastsUptoCard

/-- THE SECOND FORM's CARD OF 'chancerylaw06.WalNil'. -/
def walNilUptoCard : Claim7 := { stood := { row := walNilUptoRow, standIns := [], harness := (true, "41bbf38aacde7d62fc28022f692ba6e0b2e9e85a7a6da319ae3aa82868a44313"), looks := true }, kinds := [], alts := [], laidByText := true, laidKinds := [.data, .data, .data, .data, .sentinel, .sentinel, .pinned], laidTests := true, laidLooks := .later }
def WalNilUptoCardSaid : Prop := Claim7.holds Tryz.pinned (.plain (OpenSpec.upto walNilSpec)) walNilUptoCard
end Rows
end Go.Proofs.YtillejdjghlicaaGreatDoor
