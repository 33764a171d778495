/- Proved: the law ShowTypes as a row that holds (towards the given statement ShowTypesUptoCardSaid). -/
import Derived.Test.YtmlghadphdpbjaaGreatDoorUB
set_option linter.all false
set_option autoImplicit false
set_option maxRecDepth 100000
namespace Go.Proofs.YtmlghadphdpbjaaGreatDoor.Pa
open Go Go.Proofs.YtmlghadphdpbjaaGreatDoor.Am Go.ChangeShapes Go.WideShapes Go.ChangeAt Go.RowKit
theorem showTypes_named:Tryz.pinned.checked.prog.funcNamed Rows.showTypesUptoRow.func=some 4:=by kernel_rfl
theorem showTypes_closed:joinedFacts Tryz.pinned.checked.prog 4 Tryz.f4 (Rows.OpenSpec.upto Rows.showTypesSpec).bare Rows.showTypesUptoRow=true:=by kernel_rfl
theorem showTypes_holds:Rows.ShowTypesUptoSaid:=
 OpenClaim.holds_of_cond 4 Tryz.f4 rfl rfl rfl rfl rfl rfl rfl ⟨rfl,rfl,rfl,rfl,rfl⟩ rfl rfl rfl rfl rfl showTypes_named Tryz.func4 showTypes_closed
  (of_decide_eq_true (by kernel_rfl)) (by unfold Func.isWrapper;first|(rw[if_pos (by decide+kernel)];kernel_rfl)|(rw[if_neg (by decide+kernel)];exact⟨rfl,rfl⟩))
  (λos started H enc _ F=>by
   rw[OpenClaim.pre_eq_preRow]
   exact showTypes_lifted os started H enc F)
end Go.Proofs.YtmlghadphdpbjaaGreatDoor.Pa
