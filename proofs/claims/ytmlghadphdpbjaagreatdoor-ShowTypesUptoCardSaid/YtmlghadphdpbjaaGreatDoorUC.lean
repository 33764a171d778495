/- Proved: the law ShowTypes answers true for all arguments of bulk at most 1048576 together, and they read afterwards as before (the given statement ShowTypesUptoCardSaid: the tied card). -/
import Derived.Test.YtmlghadphdpbjaaGreatDoorUD
set_option linter.all false
set_option autoImplicit false
set_option maxRecDepth 100000
namespace Go.Proofs.YtmlghadphdpbjaaGreatDoor.Pa
open Go Go.Proofs.YtmlghadphdpbjaaGreatDoor.Am Go.ChangeShapes Go.WideShapes Go.ChangeAt Go.RowKit
theorem showTypes_row_tie:Rows.showTypesUptoRow.laidByTextAt .later Tryz.pinned [.data,.data,.data,.sentinel,.sentinel] true:=
 OpenClaim.laidByTextAt_later rfl rfl tie noOwnUnsafe
theorem showTypesCard_holds:Rows.ShowTypesUptoCardSaid:=
 Claim7.holds_tied_plain_at .later [] [.data,.data,.data,.sentinel,.sentinel] true (true,"868ed3311cff287e2001cb183645f99e92a0b745947d4069a56b7da9c7efe240") true
  showTypes_holds (λ_ h=>by cases h) (by kernel_rfl) (λ_ h=>by cases h) showTypes_row_tie rfl ⟨rfl,rfl⟩ (by kernel_rfl) rfl
  (λf fn hf hfn=>by
   obtain rfl:f=4:=Option.some.inj ((show Tryz.prog.funcNamed "athanor/athanorlaw13.ShowTypes" =some 4 by kernel_rfl).symm.trans hf) |>.symm
   obtain rfl:fn=Tryz.f4:=(Option.some.inj (Tryz.func4.symm.trans hfn)).symm
   exact⟨by kernel_rfl,λj t ht=>by
    rw[Tryz.params4] at ht
    have hm:t∈[28]:=by simpa using Array.mem_of_getElem? ht
    have hall:([28].all λu=>!Tryz.prog.wantsStandIn u)=true:=by kernel_rfl
    exact(show Tryz.prog.wantsStandIn t=false by simpa using List.all_eq_true.1 hall t hm)⟩)
  (by kernel_rfl)
#print axioms showTypesCard_holds
end Go.Proofs.YtmlghadphdpbjaaGreatDoor.Pa
