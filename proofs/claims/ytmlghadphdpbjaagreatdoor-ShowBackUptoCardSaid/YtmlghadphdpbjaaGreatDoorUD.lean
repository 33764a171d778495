/- Proved: the law ShowBack as a row that holds (towards the given statement ShowBackUptoCardSaid). -/
import Derived.Test.YtmlghadphdpbjaaGreatDoorUB
set_option linter.all false
set_option autoImplicit false
set_option maxRecDepth 100000
namespace Go.Proofs.YtmlghadphdpbjaaGreatDoor.Pa
open Go Go.Proofs.YtmlghadphdpbjaaGreatDoor.Am Go.ChangeShapes Go.WideShapes Go.ChangeAt Go.RowKit
theorem showBack_named:Tryz.pinned.checked.prog.funcNamed Rows.showBackUptoRow.func=some 6:=by kernel_rfl
theorem showBack_closed:joinedFacts Tryz.pinned.checked.prog 6 Tryz.f6 (Rows.OpenSpec.upto Rows.showBackSpec).bare Rows.showBackUptoRow=true:=by kernel_rfl
theorem showBack_holds:Rows.ShowBackUptoSaid:=
 OpenClaim.holds_of_cond 6 Tryz.f6 rfl rfl rfl rfl rfl rfl rfl ⟨rfl,rfl,rfl,rfl,rfl⟩ rfl rfl rfl rfl rfl showBack_named Tryz.func6 showBack_closed
  (of_decide_eq_true (by kernel_rfl)) (by unfold Func.isWrapper;first|(rw[if_pos (by decide+kernel)];kernel_rfl)|(rw[if_neg (by decide+kernel)];exact⟨rfl,rfl⟩))
  (λos started H enc _ F=>by
   rw[OpenClaim.pre_eq_preRow]
   exact showBack_lifted os started H enc F)
end Go.Proofs.YtmlghadphdpbjaaGreatDoor.Pa
