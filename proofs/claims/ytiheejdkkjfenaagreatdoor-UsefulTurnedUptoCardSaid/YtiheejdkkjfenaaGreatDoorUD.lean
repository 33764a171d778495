/- Proved: the law UsefulTurned as a row that holds (towards the given statement UsefulTurnedUptoCardSaid). -/
import Derived.Test.YtiheejdkkjfenaaGreatDoorUB
set_option linter.all false
set_option autoImplicit false
set_option maxRecDepth 100000
namespace Go.Proofs.YtiheejdkkjfenaaGreatDoor.Pa
open Go Go.Proofs.YtiheejdkkjfenaaGreatDoor.Am Go.ChangeShapes Go.WideShapes Go.ChangeAt Go.RowKit
theorem usefulTurned_named:Tryz.pinned.checked.prog.funcNamed Rows.usefulTurnedUptoRow.func=some 4:=by kernel_rfl
theorem usefulTurned_closed:joinedFacts Tryz.pinned.checked.prog 4 Tryz.f4 (Rows.OpenSpec.upto Rows.usefulTurnedSpec).bare Rows.usefulTurnedUptoRow=true:=by kernel_rfl
theorem usefulTurned_holds:Rows.UsefulTurnedUptoSaid:=
 OpenClaim.holds_of_cond 4 Tryz.f4 rfl rfl rfl rfl rfl rfl rfl ⟨rfl,rfl,rfl,rfl,rfl⟩ rfl rfl rfl rfl rfl usefulTurned_named Tryz.func4 usefulTurned_closed
  (of_decide_eq_true (by kernel_rfl)) (by unfold Func.isWrapper;first|(rw[if_pos (by decide+kernel)];kernel_rfl)|(rw[if_neg (by decide+kernel)];exact⟨rfl,rfl⟩))
  (λos started H enc _ F=>by
   rw[OpenClaim.pre_eq_preRow]
   exact usefulTurned_lifted os started H enc F)
end Go.Proofs.YtiheejdkkjfenaaGreatDoor.Pa
