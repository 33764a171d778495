/- The law FlatGoods: true for every flat program. -/
import Derived.Test.YtimljadlfhccpaaProg
import Derived.Test.YtimljadlfhccpaaMkP
import Derived.Test.YtimljadlfhccpaaRnE
import Derived.Test.YtimljadlfhccpaaGoodG
set_option linter.all false
set_option linter.all false
namespace Go.Proofs.Ytimljadlfhccpaa
open Go.RowKit
theorem goods_all {m : Mp} {v : Value} {f : Flat} (hr : RFlat m v f) (hs : FewF 2097152 f) (w : World) (hm : Ag m w) : Calls Try.prog 3 #[.agg #[v, .int .i64 f.main]] w fun e w' => e = .returned (.bool true) ∧ Below w.heap.size w w' :=
  goods_any (fun m v f hr w hm => flGood hr w hm) (fun m v f hr w hm => good25 hr w hm) (fun m v pl f l fuel hr hl hfu w hm => rrun_any hr hl hfu w hm) hr hs w hm
end Go.Proofs.Ytimljadlfhccpaa
