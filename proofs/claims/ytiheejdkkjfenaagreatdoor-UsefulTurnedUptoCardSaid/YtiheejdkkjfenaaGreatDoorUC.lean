/- Proved: the law UsefulTurned answers true for all arguments of bulk at most 1048576 together, and they read afterwards as before (the given statement UsefulTurnedUptoCardSaid: the tied card). -/
import Derived.Test.YtiheejdkkjfenaaGreatDoorUD
set_option linter.all false
set_option autoImplicit false
set_option maxRecDepth 100000
namespace Go.Proofs.YtiheejdkkjfenaaGreatDoor.Pa
open Go Go.Proofs.YtiheejdkkjfenaaGreatDoor.Am Go.ChangeShapes Go.WideShapes Go.ChangeAt Go.RowKit
theorem usefulTurned_row_tie:Rows.usefulTurnedUptoRow.laidByTextAt .later Tryz.pinned [.data,.data,.data,.sentinel,.sentinel] true:=
 OpenClaim.laidByTextAt_later rfl rfl tie noOwnUnsafe
theorem usefulTurnedCard_holds:Rows.UsefulTurnedUptoCardSaid:=
 Claim7.holds_tied_plain_at .later [] [.data,.data,.data,.sentinel,.sentinel] true (true,"b035580d7f9ffd373bc90b0f08aa3e186b7ea938fbcb24f96f786ef5d784bdb0") true
  usefulTurned_holds (λ_ h=>by cases h) (by kernel_rfl) (λ_ h=>by cases h) usefulTurned_row_tie rfl ⟨rfl,rfl⟩ (by kernel_rfl) rfl
  (λf fn hf hfn=>by
   obtain rfl:f=4:=Option.some.inj ((show Tryz.prog.funcNamed "athanor/athanorlaw17.UsefulTurned" =some 4 by kernel_rfl).symm.trans hf) |>.symm
   obtain rfl:fn=Tryz.f4:=(Option.some.inj (Tryz.func4.symm.trans hfn)).symm
   exact⟨by kernel_rfl,λj t ht=>by
    rw[Tryz.params4] at ht
    have hm:t∈[22,24]:=by simpa using Array.mem_of_getElem? ht
    have hall:([22,24].all λu=>!Tryz.prog.wantsStandIn u)=true:=by kernel_rfl
    exact(show Tryz.prog.wantsStandIn t=false by simpa using List.all_eq_true.1 hall t hm)⟩)
  (by kernel_rfl)
#print axioms usefulTurnedCard_holds
end Go.Proofs.YtiheejdkkjfenaaGreatDoor.Pa
