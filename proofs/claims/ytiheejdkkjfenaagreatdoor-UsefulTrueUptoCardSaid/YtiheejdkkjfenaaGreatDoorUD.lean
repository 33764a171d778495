/- Proved: the law UsefulTrue as a row that holds (towards the given statement UsefulTrueUptoCardSaid). -/
import Derived.Test.YtiheejdkkjfenaaGreatDoorUB
set_option linter.all false
set_option autoImplicit false
set_option maxRecDepth 100000
namespace Go.Proofs.YtiheejdkkjfenaaGreatDoor.Pa
open Go Go.Proofs.YtiheejdkkjfenaaGreatDoor.Am Go.ChangeShapes Go.WideShapes Go.ChangeAt Go.RowKit
theorem usefulTrue_named:Tryz.pinned.checked.prog.funcNamed Rows.usefulTrueUptoRow.func=some 6:=by kernel_rfl
theorem usefulTrue_closed:joinedFacts Tryz.pinned.checked.prog 6 Tryz.f6 (Rows.OpenSpec.upto Rows.usefulTrueSpec).bare Rows.usefulTrueUptoRow=true:=by kernel_rfl
theorem usefulTrue_holds:Rows.UsefulTrueUptoSaid:=
 OpenClaim.holds_of_cond 6 Tryz.f6 rfl rfl rfl rfl rfl rfl rfl ⟨rfl,rfl,rfl,rfl,rfl⟩ rfl rfl rfl rfl rfl usefulTrue_named Tryz.func6 usefulTrue_closed
  (of_decide_eq_true (by kernel_rfl)) (by unfold Func.isWrapper;first|(rw[if_pos (by decide+kernel)];kernel_rfl)|(rw[if_neg (by decide+kernel)];exact⟨rfl,rfl⟩))
  (λos started H enc _ F=>by
   rw[OpenClaim.pre_eq_preRow]
   exact usefulTrue_lifted os started H enc F)
end Go.Proofs.YtiheejdkkjfenaaGreatDoor.Pa
