/- The statement ImageNil's function returns true. -/
import Derived.Test.YthljnnjpmdgkoaaN42
namespace Go.Proofs.Ythljnnjpmdgkoaa
open Go Go.Proofs Go.RowKit
set_option maxRecDepth 100000
set_option maxHeartbeats 4000000 in
theorem zjq {TA:zan} (hT:TreeOk TA 1000000) (w:World):Calls Try.prog 6 #[] w fun e w'=>e = .returned (.bool true)/\Fr No w w':=by
 have hb:=fun W=>zel W;have hld:∀ W,Calls Try.prog 24 #[.string ⟨#[]⟩] W fun e w'=>e = .returned (.tuple #[.pointer none,.int .i64 10])/\Fr No W w':=fun W=>zjo hT imgN [] (docB newD) rfl (zts _) W;go_enter Try.func6,Try.ntmps6
 go_upto_region 2 with (first
  | (go_at_call 25;(with_reducible refine (hb _).mono ?_);rintro e w1 ⟨rfl,f1⟩)
  | (go_at_call 24;(with_reducible refine (hld _).mono ?_);rintro e w2 ⟨rfl,f2⟩))
 go_wp2_with (first
  | (go_at_call 25;(with_reducible refine (hb _).mono ?_);rintro e w3 ⟨rfl,f3⟩)
  | (go_at_call 26;refine (zfv _).mono ?_;rintro e w4 ⟨rfl,f4⟩)
  | (go_at_call 27;refine (zjs hT _).mono ?_;rintro e w5 ⟨rfl,f5⟩))
 go_ret;exact ⟨rfl,(((f1.trans0 f2).trans0 f3).trans0 f4).trans0 f5⟩
end Go.Proofs.Ythljnnjpmdgkoaa
