/- The looker looks at terms. -/
import Derived.Test.YtimljadlfhccpaaProg
import Derived.Test.YtimljadlfhccpaaME
import Derived.Test.YtimljadlfhccpaaMC
import Derived.Test.YtimljadlfhccpaaFormedG
import Derived.Test.YtimljadlfhccpaaMD
set_option linter.all false
set_option linter.all false
set_option linter.all false
set_option linter.all false
namespace Go.Proofs.Ytimljadlfhccpaa
open Go.RowKit
set_option maxHeartbeats 1000000

theorem formed_any {m : Mp} {t : Term} {tb tcap ab acap fb fcap nb ncap} (hr : RTerm m [.int .i64 t.kind, .int .i64 t.x, .int .i64 t.n, .bool t.ints, .slice tb t.tags.length tcap, .slice ab t.args.length acap, .slice fb t.funs.length fcap, .slice nb t.next.length ncap] t)
    (O : Opn m t tb tcap ab acap fb fcap nb ncap) (kb : Nat) (Fb : Option Addr) (nf Fc : Nat) (main : Int) (w : World) (hm : Ag m w) (hkb : kb < w.heap.size)
    (q0 : w.cell? ⟨kb, 0, none⟩ = some (.slice Fb nf Fc)) (q1 : w.cell? ⟨kb, 1, none⟩ = some (.int .i64 main)) (hnf : nf ≤ 4096) :
    Calls Try.prog 36 #[.pointer (some ⟨kb, 0, none⟩), .agg #[.int .i64 t.kind, .int .i64 t.x, .int .i64 t.n, .bool t.ints, .slice tb t.tags.length tcap, .slice ab t.args.length acap, .slice fb t.funs.length fcap, .slice nb t.next.length ncap]] w fun e w' => e = .returned (.bool (formedB nf main t)) ∧ Below w.heap.size w w' := by
  by_cases k1 : t.kind = 1
  · exact formed_1 O k1 kb Fb nf Fc main w hm hkb q0 q1 hnf
  by_cases k2 : t.kind = 2
  · exact formed_2 O k2 kb Fb nf Fc main w hm hkb q0 q1 hnf
  by_cases k3 : t.kind = 3
  · exact formed_3 O k3 kb Fb nf Fc main w hm hkb q0 q1 hnf
  by_cases k5 : t.kind = 5
  · exact formed_5 O k5 kb Fb nf Fc main w hm hkb q0 q1 hnf
  by_cases k6 : t.kind = 6
  · exact formed_6 O k6 hr kb Fb nf Fc main w hm hkb q0 q1 hnf
  by_cases k7 : t.kind = 7
  · exact formed_7 O k7 kb Fb nf Fc main w hm hkb q0 q1 hnf
  by_cases k8 : t.kind = 8
  · exact formed_8 O k8 kb Fb nf Fc main w hm hkb q0 q1 hnf
  by_cases k9 : t.kind = 9
  · exact formed_9 O k9 kb Fb nf Fc main w hm hkb q0 q1 hnf
  by_cases k10 : t.kind = 10
  · exact formed_10 O k10 kb Fb nf Fc main w hm hkb q0 q1 hnf
  exact formed_no O ⟨k1, k2, k3, k5, k6, k7, k8, k9, k10⟩ kb Fb nf Fc main w hm hkb q0 q1 hnf
end Go.Proofs.Ytimljadlfhccpaa
