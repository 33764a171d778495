/- Proved: the law ScopeClosed as a row that holds (towards the given statement ScopeClosedUptoCardSaid). -/
import Derived.Test.YtgmapdcdmomioaaGreatDoorUB
set_option linter.all false
set_option autoImplicit false
set_option maxRecDepth 100000
namespace Go.Proofs.YtgmapdcdmomioaaGreatDoor.Pa
open Go Go.Proofs.YtgmapdcdmomioaaGreatDoor.Am Go.ChangeShapes Go.WideShapes Go.ChangeAt Go.RowKit
theorem scopeClosed_named : Tryz.pinned.checked.prog.funcNamed Rows.scopeClosedUptoRow.func = some 12 := by kernel_rfl
theorem scopeClosed_closed : joinedFacts Tryz.pinned.checked.prog 12 Tryz.f12 (Rows.OpenSpec.upto Rows.scopeClosedSpec).bare Rows.scopeClosedUptoRow = true := by kernel_rfl
theorem scopeClosed_holds : Rows.ScopeClosedUptoSaid :=
  OpenClaim.holds_of_cond 12 Tryz.f12 rfl rfl rfl rfl rfl rfl rfl ⟨rfl, rfl, rfl, rfl, rfl⟩ rfl rfl rfl rfl rfl scopeClosed_named Tryz.func12 scopeClosed_closed
    (of_decide_eq_true (by kernel_rfl)) (by unfold Func.isWrapper; first | (rw [if_pos (by decide +kernel)]; kernel_rfl) | (rw [if_neg (by decide +kernel)]; exact ⟨rfl, rfl⟩))
    (fun os started H enc _ F => by
      rw [OpenClaim.pre_eq_preRow]
      exact scopeClosed_lifted os started H enc F)
end Go.Proofs.YtgmapdcdmomioaaGreatDoor.Pa
