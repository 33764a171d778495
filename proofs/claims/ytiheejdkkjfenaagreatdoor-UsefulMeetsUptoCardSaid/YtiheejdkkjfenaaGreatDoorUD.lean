/- Proved: the law UsefulMeets as a row that holds (towards the given statement UsefulMeetsUptoCardSaid). -/
import Derived.Test.YtiheejdkkjfenaaGreatDoorUB
set_option linter.all false
set_option autoImplicit false
set_option maxRecDepth 100000
namespace Go.Proofs.YtiheejdkkjfenaaGreatDoor.Pa
open Go Go.Proofs.YtiheejdkkjfenaaGreatDoor.Am Go.ChangeShapes Go.WideShapes Go.ChangeAt Go.RowKit
theorem usefulMeets_named:Tryz.pinned.checked.prog.funcNamed Rows.usefulMeetsUptoRow.func=some 5:=by kernel_rfl
theorem usefulMeets_closed:joinedFacts Tryz.pinned.checked.prog 5 Tryz.f5 (Rows.OpenSpec.upto Rows.usefulMeetsSpec).bare Rows.usefulMeetsUptoRow=true:=by kernel_rfl
theorem usefulMeets_holds:Rows.UsefulMeetsUptoSaid:=
 OpenClaim.holds_of_cond 5 Tryz.f5 rfl rfl rfl rfl rfl rfl rfl ⟨rfl,rfl,rfl,rfl,rfl⟩ rfl rfl rfl rfl rfl usefulMeets_named Tryz.func5 usefulMeets_closed
  (of_decide_eq_true (by kernel_rfl)) (by unfold Func.isWrapper;first|(rw[if_pos (by decide+kernel)];kernel_rfl)|(rw[if_neg (by decide+kernel)];exact⟨rfl,rfl⟩))
  (λos started H enc _ F=>by
   rw[OpenClaim.pre_eq_preRow]
   exact usefulMeets_lifted os started H enc F)
end Go.Proofs.YtiheejdkkjfenaaGreatDoor.Pa
