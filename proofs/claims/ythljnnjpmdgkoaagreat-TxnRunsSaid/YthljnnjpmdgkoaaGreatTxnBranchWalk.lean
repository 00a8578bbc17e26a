/- The statement TxnBranch's function returns true, whatever its arguments are. -/
import Derived.Test.YthljnnjpmdgkoaaGreatK35
import Derived.Test.YthljnnjpmdgkoaaGreatK39
import Derived.Test.YthljnnjpmdgkoaaGreatK36
import Derived.Test.YthljnnjpmdgkoaaGreatK32
namespace Go.Proofs.YthljnnjpmdgkoaaGreat
open Go Go.Proofs Go.RowKit
set_option maxRecDepth 100000
theorem zoc {cs:List Cmp} {la lb:List Opr} (h:fewTxn cs la lb=true):cs.length<=30/\la.length<=30/\lb.length<=30/\(∀ c∈cs,c.key.size<=3000)/\(∀ o∈la,o.rg.key.size<=3000)/\(∀ o∈lb,o.rg.key.size<=3000):=by
 unfold fewTxn zbh fewCal fewOps fewCmp fewOp at h;simp only [Bool.and_eq_true,decide_eq_true_eq,List.all_eq_true,List.mem_cons,List.not_mem_nil,or_false,forall_eq_or_imp,forall_eq] at h;obtain ⟨⟨e,_,a,b⟩,d⟩:=h;exact ⟨e,a.1.1.1.1.1,b.1.1.1.1.1,fun c h=>(d c h).1,fun o h=>(a.1.1.1.1.2 o h).1.1,fun o h=>(b.1.1.1.1.2 o h).1.1⟩
end Go.Proofs.YthljnnjpmdgkoaaGreat
