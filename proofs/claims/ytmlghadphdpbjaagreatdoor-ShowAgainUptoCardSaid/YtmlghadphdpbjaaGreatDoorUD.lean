/- Proved: the law ShowAgain as a row that holds (towards the given statement ShowAgainUptoCardSaid). -/
import Derived.Test.YtmlghadphdpbjaaGreatDoorUB
set_option linter.all false
set_option autoImplicit false
set_option maxRecDepth 100000
namespace Go.Proofs.YtmlghadphdpbjaaGreatDoor.Pa
open Go Go.Proofs.YtmlghadphdpbjaaGreatDoor.Am Go.ChangeShapes Go.WideShapes Go.ChangeAt Go.RowKit
theorem showAgain_named:Tryz.pinned.checked.prog.funcNamed Rows.showAgainUptoRow.func=some 7:=by kernel_rfl
theorem showAgain_closed:joinedFacts Tryz.pinned.checked.prog 7 Tryz.f7 (Rows.OpenSpec.upto Rows.showAgainSpec).bare Rows.showAgainUptoRow=true:=by kernel_rfl
theorem showAgain_holds:Rows.ShowAgainUptoSaid:=
 OpenClaim.holds_of_cond 7 Tryz.f7 rfl rfl rfl rfl rfl rfl rfl ⟨rfl,rfl,rfl,rfl,rfl⟩ rfl rfl rfl rfl rfl showAgain_named Tryz.func7 showAgain_closed
  (of_decide_eq_true (by kernel_rfl)) (by unfold Func.isWrapper;first|(rw[if_pos (by decide+kernel)];kernel_rfl)|(rw[if_neg (by decide+kernel)];exact⟨rfl,rfl⟩))
  (λos started H enc _ F=>by
   rw[OpenClaim.pre_eq_preRow]
   exact showAgain_lifted os started H enc F)
end Go.Proofs.YtmlghadphdpbjaaGreatDoor.Pa
