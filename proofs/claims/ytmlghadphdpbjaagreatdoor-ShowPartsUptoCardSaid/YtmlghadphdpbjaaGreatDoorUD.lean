/- Proved: the law ShowParts as a row that holds (towards the given statement ShowPartsUptoCardSaid). -/
import Derived.Test.YtmlghadphdpbjaaGreatDoorUB
set_option linter.all false
set_option autoImplicit false
set_option maxRecDepth 100000
namespace Go.Proofs.YtmlghadphdpbjaaGreatDoor.Pa
open Go Go.Proofs.YtmlghadphdpbjaaGreatDoor.Am Go.ChangeShapes Go.WideShapes Go.ChangeAt Go.RowKit
theorem showParts_named:Tryz.pinned.checked.prog.funcNamed Rows.showPartsUptoRow.func=some 3:=by kernel_rfl
theorem showParts_closed:joinedFacts Tryz.pinned.checked.prog 3 Tryz.f3 (Rows.OpenSpec.upto Rows.showPartsSpec).bare Rows.showPartsUptoRow=true:=by kernel_rfl
theorem showParts_holds:Rows.ShowPartsUptoSaid:=
 OpenClaim.holds_of_cond 3 Tryz.f3 rfl rfl rfl rfl rfl rfl rfl ⟨rfl,rfl,rfl,rfl,rfl⟩ rfl rfl rfl rfl rfl showParts_named Tryz.func3 showParts_closed
  (of_decide_eq_true (by kernel_rfl)) (by unfold Func.isWrapper;first|(rw[if_pos (by decide+kernel)];kernel_rfl)|(rw[if_neg (by decide+kernel)];exact⟨rfl,rfl⟩))
  (λos started H enc _ F=>by
   rw[OpenClaim.pre_eq_preRow]
   exact showParts_lifted os started H enc F)
end Go.Proofs.YtmlghadphdpbjaaGreatDoor.Pa
