/- What a term's kind has: the program's own test, kind by kind. -/
import Derived.Test.YtimljadlfhccpaaProg
import Derived.Test.YtimljadlfhccpaaMB
import Derived.Deep.RegionHeld3
set_option linter.all false
set_option linter.all false
set_option linter.all false
set_option linter.all false
namespace Go.Proofs.Ytimljadlfhccpaa
open Go.RowKit
set_option maxHeartbeats 4000000

set_option maxRecDepth 100000 in
theorem formed_9a {m : Mp} {t : Term} {tb tcap ab acap fb fcap nb ncap} (O : Opn m t tb tcap ab acap fb fcap nb ncap) (k9 : t.kind = 9) (kb : Nat)  (Fb : Option Addr) (nf Fc : Nat) (main : Int) (w : World) (hm : Ag m w) (hkb : kb < w.heap.size)
    (q0 : w.cell? ⟨kb, 0, none⟩ = some (.slice Fb nf Fc)) (q1 : w.cell? ⟨kb, 1, none⟩ = some (.int .i64 main)) (hnf : nf ≤ 4096) (h1 : ¬ 0 ≤ t.n) :
    Calls Try.prog 36 #[.pointer (some ⟨kb, 0, none⟩), .agg #[.int .i64 t.kind, .int .i64 t.x, .int .i64 t.n, .bool t.ints, .slice tb t.tags.length tcap, .slice ab t.args.length acap, .slice fb t.funs.length fcap, .slice nb t.next.length ncap]] w fun e w' => e = .returned (.bool (formedB nf main t)) ∧ Below w.heap.size w w' := by
  have HM := Lib.hid hm
  have HT := Lib.hid O
  have t2 := O.tags.len
  have a2 := O.args.len
  have f2 := O.fbd
  have n2 := O.nbd
  have K := Lib.hid k9
  clear hm O
  have hd : decide (0 ≤ t.n) = false := by simpa using h1
  go_enter Try.func36, Try.ntmps36
  go_wp2_with fail
  go_region
  all_goals go_wp2_with fail
  all_goals go_ret
  all_goals exact ⟨congrArg (fun x => Ending.returned (.bool x)) (by rw [formedB_9 K.out, Bool.eq_iff_iff]; simp_all <;> first | omega | (intros; first | omega | (exfalso; omega)) | (constructor <;> intros <;> simp_all <;> omega)), by repeat (first | exact below_box _ _ | exact Below.refl _ _ | apply Below.drew | apply below_drewN | (refine Below.alloc ?_ (by simp) _) | (refine Below.setCell ?_ (by simp) _))⟩
end Go.Proofs.Ytimljadlfhccpaa
