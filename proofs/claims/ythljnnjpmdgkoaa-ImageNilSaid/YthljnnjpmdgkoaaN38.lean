/- An own lemma: a region that draws its order, walked once, in a class of worlds (all that keep what was). -/
import Derived.Deep.QuietTactic
import Derived.BigQuiet
namespace Go.Proofs.Ythljnnjpmdgkoaa
open Go Go.Proofs
theorem zbg {P:Program} {C:World->Prop} {id:Nat} {Q:Exit->Act->World->Prop} {a:Act} {w:World} {l:List Oper} (hm:P.follows .mixedOrders=true) (hB:Region.lexB .any l.toArray=true)
 (hC:C w.drew) (h:wpQuiet P l.toArray C (fun a'=>∀ w',C w'->Q .normal a' w') l a):(Code.region id l.toArray true).wp P Q a w :=
 wp_region_quiet hm hB hC (by simpa using h)
end Go.Proofs.Ythljnnjpmdgkoaa
