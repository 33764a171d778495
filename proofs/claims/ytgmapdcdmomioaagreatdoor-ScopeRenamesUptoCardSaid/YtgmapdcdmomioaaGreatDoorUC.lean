/- Proved: the law ScopeRenames answers true for all arguments of bulk at most 1048576 together, and they read afterwards as before (the given statement ScopeRenamesUptoCardSaid: the tied card). -/
import Derived.Test.YtgmapdcdmomioaaGreatDoorUD
set_option linter.all false
set_option autoImplicit false
set_option maxRecDepth 100000
namespace Go.Proofs.YtgmapdcdmomioaaGreatDoor.Pa
open Go Go.Proofs.YtgmapdcdmomioaaGreatDoor.Am Go.ChangeShapes Go.WideShapes Go.ChangeAt Go.RowKit
theorem scopeRenames_row_tie:Rows.scopeRenamesUptoRow.laidByTextAt .later Tryz.pinned [.data,.data,.data,.sentinel,.sentinel] true:=
 OpenClaim.laidByTextAt_later rfl rfl tie noOwnUnsafe
theorem scopeRenamesCard_holds:Rows.ScopeRenamesUptoCardSaid:=
 Claim7.holds_tied_plain_at .later [] [.data,.data,.data,.sentinel,.sentinel] true (true,"de352d070b515da3f966ff8b290421961e1dea6e12fbd39f4145d1251d8e13fb") true
  scopeRenames_holds (λ_ h=>by cases h) (by kernel_rfl) (λ_ h=>by cases h) scopeRenames_row_tie rfl ⟨rfl,rfl⟩ (by kernel_rfl) rfl
  (λf fn hf hfn=>by
   obtain rfl:f=13:=Option.some.inj ((show Tryz.prog.funcNamed "athanor/athanorlaw14.ScopeRenames" =some 13 by kernel_rfl).symm.trans hf) |>.symm
   obtain rfl:fn=Tryz.f13:=(Option.some.inj (Tryz.func13.symm.trans hfn)).symm
   exact⟨by kernel_rfl,λj t ht=>by
    rw[Tryz.params13] at ht
    have hm:t∈[29]:=by simpa using Array.mem_of_getElem? ht
    have hall:([29].all λu=>!Tryz.prog.wantsStandIn u)=true:=by kernel_rfl
    exact(show Tryz.prog.wantsStandIn t=false by simpa using List.all_eq_true.1 hall t hm)⟩)
  (by kernel_rfl)
#print axioms scopeRenamesCard_holds
end Go.Proofs.YtgmapdcdmomioaaGreatDoor.Pa
