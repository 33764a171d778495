/- Proved: the law UsefulChecks as a row that holds (towards the given statement UsefulChecksUptoCardSaid). -/
import Derived.Test.YtiheejdkkjfenaaGreatDoorUB
set_option linter.all false
set_option autoImplicit false
set_option maxRecDepth 100000
namespace Go.Proofs.YtiheejdkkjfenaaGreatDoor.Pa
open Go Go.Proofs.YtiheejdkkjfenaaGreatDoor.Am Go.ChangeShapes Go.WideShapes Go.ChangeAt Go.RowKit
theorem um:Tryz.pinned.checked.prog.funcNamed Rows.usefulChecksUptoRow.func=some 3:=by kernel_rfl
theorem usf:joinedFacts Tryz.pinned.checked.prog 3 Tryz.f3 (Rows.OpenSpec.upto Rows.usefulChecksSpec).bare Rows.usefulChecksUptoRow=true:=by kernel_rfl
theorem usu:Rows.UsefulChecksUptoSaid:=
 OpenClaim.holds_of_cond 3 Tryz.f3 rfl rfl rfl rfl rfl rfl rfl ⟨rfl,rfl,rfl,rfl,rfl⟩ rfl rfl rfl rfl rfl um Tryz.func3 usf
  (of_decide_eq_true (by kernel_rfl)) (by unfold Func.isWrapper;first|(rw[if_pos (by decide+kernel)];kernel_rfl)|(rw[if_neg (by decide+kernel)];exact⟨rfl,rfl⟩))
  (λos started H enc _ F=>by
   rw[OpenClaim.pre_eq_preRow];exact ui os started H enc F)
end Go.Proofs.YtiheejdkkjfenaaGreatDoor.Pa
