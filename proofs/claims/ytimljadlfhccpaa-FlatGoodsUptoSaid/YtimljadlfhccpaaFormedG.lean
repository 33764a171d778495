/- What a term's kind has: the program's own test, kind by kind. -/
import Derived.Test.YtimljadlfhccpaaProg
import Derived.Test.YtimljadlfhccpaaMB
import Derived.Test.YtimljadlfhccpaaFormedG1
import Derived.Test.YtimljadlfhccpaaFormedG2
import Derived.Test.YtimljadlfhccpaaFormedG3
import Derived.Test.YtimljadlfhccpaaFormedG4
import Derived.Test.YtimljadlfhccpaaFormedG5
import Derived.Deep.RegionHeld3
set_option linter.all false
set_option linter.all false
set_option linter.all false
set_option linter.all false
namespace Go.Proofs.Ytimljadlfhccpaa
open Go.RowKit
set_option maxHeartbeats 4000000

set_option maxRecDepth 100000 in
theorem formed_9 {m : Mp} {t : Term} {tb tcap ab acap fb fcap nb ncap} (O : Opn m t tb tcap ab acap fb fcap nb ncap) (k9 : t.kind = 9) (kb : Nat) (Fb : Option Addr) (nf Fc : Nat) (main : Int) (w : World) (hm : Ag m w) (hkb : kb < w.heap.size)
    (q0 : w.cell? ⟨kb, 0, none⟩ = some (.slice Fb nf Fc)) (q1 : w.cell? ⟨kb, 1, none⟩ = some (.int .i64 main)) (hnf : nf ≤ 4096) :
    Calls Try.prog 36 #[.pointer (some ⟨kb, 0, none⟩), .agg #[.int .i64 t.kind, .int .i64 t.x, .int .i64 t.n, .bool t.ints, .slice tb t.tags.length tcap, .slice ab t.args.length acap, .slice fb t.funs.length fcap, .slice nb t.next.length ncap]] w fun e w' => e = .returned (.bool (formedB nf main t)) ∧ Below w.heap.size w w' := by
  by_cases h1 : 0 ≤ t.n
  · by_cases h2 : t.n < nf
    · by_cases h3 : t.n = main
      · exact formed_9c O k9 kb Fb nf Fc main w hm hkb q0 q1 hnf h1 h2 h3
      · by_cases h4 : t.args.length ≤ 64
        · exact formed_9d O k9 kb Fb nf Fc main w hm hkb q0 q1 hnf h1 h2 h3 h4
        · exact formed_9e O k9 kb Fb nf Fc main w hm hkb q0 q1 hnf h1 h2 h3 h4
    · exact formed_9b O k9 kb Fb nf Fc main w hm hkb q0 q1 hnf h1 h2
  · exact formed_9a O k9 kb Fb nf Fc main w hm hkb q0 q1 hnf h1
end Go.Proofs.Ytimljadlfhccpaa
