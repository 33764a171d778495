/- Proved: the law ShowPrograms as a row that holds (towards the given statement ShowProgramsUptoCardSaid). -/
import Derived.Test.YtmlghadphdpbjaaGreatDoorUB
set_option linter.all false
set_option autoImplicit false
set_option maxRecDepth 100000
namespace Go.Proofs.YtmlghadphdpbjaaGreatDoor.Pa
open Go Go.Proofs.YtmlghadphdpbjaaGreatDoor.Am Go.ChangeShapes Go.WideShapes Go.ChangeAt Go.RowKit
theorem showPrograms_named:Tryz.pinned.checked.prog.funcNamed Rows.showProgramsUptoRow.func=some 5:=by kernel_rfl
theorem showPrograms_closed:joinedFacts Tryz.pinned.checked.prog 5 Tryz.f5 (Rows.OpenSpec.upto Rows.showProgramsSpec).bare Rows.showProgramsUptoRow=true:=by kernel_rfl
theorem showPrograms_holds:Rows.ShowProgramsUptoSaid:=
 OpenClaim.holds_of_cond 5 Tryz.f5 rfl rfl rfl rfl rfl rfl rfl ⟨rfl,rfl,rfl,rfl,rfl⟩ rfl rfl rfl rfl rfl showPrograms_named Tryz.func5 showPrograms_closed
  (of_decide_eq_true (by kernel_rfl)) (by unfold Func.isWrapper;first|(rw[if_pos (by decide+kernel)];kernel_rfl)|(rw[if_neg (by decide+kernel)];exact⟨rfl,rfl⟩))
  (λos started H enc _ F=>by
   rw[OpenClaim.pre_eq_preRow]
   exact showPrograms_lifted os started H enc F)
end Go.Proofs.YtmlghadphdpbjaaGreatDoor.Pa
