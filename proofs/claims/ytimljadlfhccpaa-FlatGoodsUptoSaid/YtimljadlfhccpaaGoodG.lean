/- The program's Good tells goodFlat. -/
import Derived.Test.YtimljadlfhccpaaProg
import Derived.Test.YtimljadlfhccpaaGoodC
import Derived.Test.YtimljadlfhccpaaGoodF
set_option linter.all false
set_option linter.all false
set_option linter.all false
set_option linter.all false
namespace Go.Proofs.Ytimljadlfhccpaa
open Go.RowKit

theorem flGood {m : Mp} {v : Value} {f : Flat} (hr : RFlat m v f) (w : World) (hm : Ag m w) :
    Calls Try.prog 8 #[.agg #[v, .int .i64 f.main]] w fun e w' => e = .returned (.bool (goodFlat f)) ∧ Below w.heap.size w w' :=
  flGood_of (fun nf main h _ _ _ _ _ _ _ _ _ _ hr O kb Fb Fc w hm hkb q0 q1 => formed_any hr O kb Fb nf Fc main w hm hkb q0 q1 h) hr w hm
end Go.Proofs.Ytimljadlfhccpaa
