/- Proved: the law ScopeRenames as a row that holds (towards the given statement ScopeRenamesUptoCardSaid). -/
import Derived.Test.YtgmapdcdmomioaaGreatDoorUB
set_option linter.all false
set_option autoImplicit false
set_option maxRecDepth 100000
namespace Go.Proofs.YtgmapdcdmomioaaGreatDoor.Pa
open Go Go.Proofs.YtgmapdcdmomioaaGreatDoor.Am Go.ChangeShapes Go.WideShapes Go.ChangeAt Go.RowKit
theorem scopeRenames_named:Tryz.pinned.checked.prog.funcNamed Rows.scopeRenamesUptoRow.func=some 13:=by kernel_rfl
theorem scopeRenames_closed:joinedFacts Tryz.pinned.checked.prog 13 Tryz.f13 (Rows.OpenSpec.upto Rows.scopeRenamesSpec).bare Rows.scopeRenamesUptoRow=true:=by kernel_rfl
theorem scopeRenames_holds:Rows.ScopeRenamesUptoSaid:=
 OpenClaim.holds_of_cond 13 Tryz.f13 rfl rfl rfl rfl rfl rfl rfl ⟨rfl,rfl,rfl,rfl,rfl⟩ rfl rfl rfl rfl rfl scopeRenames_named Tryz.func13 scopeRenames_closed
  (of_decide_eq_true (by kernel_rfl)) (by unfold Func.isWrapper;first|(rw[if_pos (by decide+kernel)];kernel_rfl)|(rw[if_neg (by decide+kernel)];exact⟨rfl,rfl⟩))
  (λos started H enc _ F=>by
   rw[OpenClaim.pre_eq_preRow]
   exact scopeRenames_lifted os started H enc F)
end Go.Proofs.YtgmapdcdmomioaaGreatDoor.Pa
