/- Proved: the law ScopeChecks is a row that holds (towards the given statement ScopeChecksUptoCardSaid). -/
import Derived.Test.YtgmapdcdmomioaaGreatDoorUB
set_option linter.all false
set_option autoImplicit false
set_option maxRecDepth 100000
namespace Go.Proofs.YtgmapdcdmomioaaGreatDoor.Pa
open Go Go.Proofs.YtgmapdcdmomioaaGreatDoor.Am Go.ChangeShapes Go.WideShapes Go.ChangeAt Go.RowKit
theorem scopeChecks_named : Tryz.pinned.checked.prog.funcNamed Rows.scopeChecksUptoRow.func = some 9 := by kernel_rfl
theorem scopeChecks_closed : joinedFacts Tryz.pinned.checked.prog 9 Tryz.f9 (Rows.OpenSpec.upto Rows.scopeChecksSpec).bare Rows.scopeChecksUptoRow = true := by kernel_rfl
theorem scopeChecks_holds : Rows.ScopeChecksUptoSaid :=
 OpenClaim.holds_of_cond 9 Tryz.f9 rfl rfl rfl rfl rfl rfl rfl ⟨rfl, rfl, rfl, rfl, rfl⟩ rfl rfl rfl rfl rfl scopeChecks_named Tryz.func9 scopeChecks_closed
  (of_decide_eq_true (by kernel_rfl)) (by unfold Func.isWrapper; first | (rw [if_pos (by decide +kernel)]; kernel_rfl) | (rw [if_neg (by decide +kernel)]; exact ⟨rfl, rfl⟩))
  (fun os started H enc _ F => by
   rw [OpenClaim.pre_eq_preRow]
   exact scopeChecks_lifted os started H enc F)
end Go.Proofs.YtgmapdcdmomioaaGreatDoor.Pa
