/- The chapter's example: awake answers true. The condition: the table of Go's library is there. -/
import Derived.Test.YtillejdjghlicaaGreatDoorWalI
namespace Go.Proofs.YtillejdjghlicaaGreatDoor
open Go Go.Proofs Go.RowKit Go.WideElems Go.ChangeMaps Go.WideMaps
set_option maxRecDepth 100000

def awB : List (List UInt8) := [[97, 97, 97, 97], [98, 98, 98, 98], [99, 99, 99, 99]]
def awD : Dk := ⟨[], 1000, 0, false⟩
def awL : Lg := ⟨20, [], 1, []⟩
theorem aw_puts : (lgPuts RR sumS awB awD awL).2.2 = 0 ∧ (lgPuts RR sumS awB awD awL).1.fs.map (·.num) = [1, 3] ∧ (lgPuts RR sumS awB awD awL).2.1.first = 1 ∧ (lgPuts RR sumS awB awD awL).2.1.l.length = 3 ∧ (lgPuts RR sumS awB awD awL).2.1.size = 20 ∧ (lgPuts RR sumS awB awD awL).1.dead = false ∧ (lgPuts RR sumS awB awD awL).1.armed = 0 :=
  ⟨by kernel_rfl, by kernel_rfl, by kernel_rfl, by kernel_rfl, by kernel_rfl, by kernel_rfl, by kernel_rfl⟩
theorem aw_cut : (lgCut RR (lgPuts RR sumS awB awD awL).1 (lgPuts RR sumS awB awD awL).2.1 3).1.fs.map (·.num) = [1] ∧ (lgCut RR (lgPuts RR sumS awB awD awL).1 (lgPuts RR sumS awB awD awL).2.1 3).1.dead = false := ⟨by kernel_rfl, by kernel_rfl⟩
theorem aw_seg : segB 1 = ⟨#[119, 97, 108, 45, 48, 48, 48, 48, 48, 48, 48, 48, 48, 49]⟩ ∧ segB 3 = ⟨#[119, 97, 108, 45, 48, 48, 48, 48, 48, 48, 48, 48, 48, 51]⟩ := ⟨by kernel_rfl, by kernel_rfl⟩
theorem aw_rest0 : Rest sumS awD awL [] 0 := ⟨trivial, rfl, rfl, rfl, fun q hq => (by cases hq), rfl⟩
theorem aw_room : (frms sumS (awL.l ++ awB)).length ≤ awD.lim := by
  have : (frms sumS (awL.l ++ awB)).length = 36 := by kernel_rfl
  rw [this]
  decide
theorem aw_body : ∀ b ∈ awB, BodyOk b := by
  intro b hb
  simp only [awB, List.mem_cons, List.mem_nil_iff, or_false] at hb
  rcases hb with rfl | rfl | rfl <;> exact ⟨by decide, by decide⟩
end Go.Proofs.YtillejdjghlicaaGreatDoor
