/- THE TIED CARD OF WalNil: whatever its argument is, the law's function returns true, and the argument reads as it did. The condition is the row's own: Go's tables are laid, tied to the program's text. -/
import Derived.Test.YtillejdjghlicaaGreatDoorTie
import Derived.Test.YtillejdjghlicaaGreatDoorCards
import Derived.Test.YtillejdjghlicaaGreatDoorWalNilProof
import Derived.SevenTiedAt
namespace Go.Proofs.YtillejdjghlicaaGreatDoor
open Go

theorem walNilCard_holds : Rows.WalNilCardSaid :=
  Claim7.holds_tied_plain_at .later [] [.data, .data, .data, .data, .sentinel, .sentinel, .pinned] true (true, "41bbf38aacde7d62fc28022f692ba6e0b2e9e85a7a6da319ae3aa82868a44313") true
    walNil_holds (fun _ h => by cases h) (by kernel_rfl) (fun _ h => by cases h) walNil_row_tie rfl ⟨rfl, rfl⟩ (by kernel_rfl) rfl
    (fun f fn hf hfn => by
      obtain rfl : f = 6 := Option.some.inj ((show Tryz.prog.funcNamed "chancery/chancerylaw06.WalNil" = some 6 by kernel_rfl).symm.trans hf) |>.symm
      obtain rfl : fn = Tryz.f6 := (Option.some.inj (Tryz.func6.symm.trans hfn)).symm
      exact ⟨by kernel_rfl, fun j t ht => by
        rw [Tryz.params6] at ht
        have hm : t ∈ [3] := by simpa using Array.mem_of_getElem? ht
        have hall : ([3].all fun u => !Tryz.prog.wantsStandIn u) = true := by kernel_rfl
        exact (show Tryz.prog.wantsStandIn t = false by simpa using List.all_eq_true.1 hall t hm)⟩)
    (by kernel_rfl)
#print axioms walNilCard_holds
end Go.Proofs.YtillejdjghlicaaGreatDoor
