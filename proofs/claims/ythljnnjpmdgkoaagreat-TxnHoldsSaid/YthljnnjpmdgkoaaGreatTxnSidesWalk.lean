/- The statement TxnSides's function returns true, whatever its arguments are. -/
import Derived.Test.YthljnnjpmdgkoaaGreatG14
import Derived.Test.YthljnnjpmdgkoaaGreatG30
import Derived.Test.YthljnnjpmdgkoaaGreatG31
namespace Go.Proofs.YthljnnjpmdgkoaaGreat
open Go Go.Proofs Go.RowKit
set_option maxRecDepth 100000
theorem CalR.fr0 {w w' : World} {v : Value} {Z : List CalQ} (h : CalR w v Z) (hf : Fr No w w') : CalR w' v Z := ⟨h.sl.fr0 hf, fun i q hq => (h.ops i q hq).fr0 hf, fun i q hq => (h.keys i q hq).fr0 hf⟩
end Go.Proofs.YthljnnjpmdgkoaaGreat
