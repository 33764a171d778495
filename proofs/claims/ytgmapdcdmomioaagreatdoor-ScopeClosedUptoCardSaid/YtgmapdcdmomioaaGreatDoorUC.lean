/- Proved: the law ScopeClosed answers true for all arguments of bulk at most 1048576 together, and they read afterwards as before (the given statement ScopeClosedUptoCardSaid: the tied card). -/
import Derived.Test.YtgmapdcdmomioaaGreatDoorUD
set_option linter.all false
set_option autoImplicit false
set_option maxRecDepth 100000
namespace Go.Proofs.YtgmapdcdmomioaaGreatDoor.Pa
open Go Go.Proofs.YtgmapdcdmomioaaGreatDoor.Am Go.ChangeShapes Go.WideShapes Go.ChangeAt Go.RowKit
theorem scopeClosed_row_tie : Rows.scopeClosedUptoRow.laidByTextAt .later Tryz.pinned [.data, .data, .data, .sentinel, .sentinel] true :=
  OpenClaim.laidByTextAt_later rfl rfl tie noOwnUnsafe
theorem scopeClosedCard_holds : Rows.ScopeClosedUptoCardSaid :=
  Claim7.holds_tied_plain_at .later [] [.data, .data, .data, .sentinel, .sentinel] true (true, "de352d070b515da3f966ff8b290421961e1dea6e12fbd39f4145d1251d8e13fb") true
    scopeClosed_holds (fun _ h => by cases h) (by kernel_rfl) (fun _ h => by cases h) scopeClosed_row_tie rfl ⟨rfl, rfl⟩ (by kernel_rfl) rfl
    (fun f fn hf hfn => by
      obtain rfl : f = 12 := Option.some.inj ((show Tryz.prog.funcNamed "athanor/athanorlaw14.ScopeClosed" = some 12 by kernel_rfl).symm.trans hf) |>.symm
      obtain rfl : fn = Tryz.f12 := (Option.some.inj (Tryz.func12.symm.trans hfn)).symm
      exact ⟨by kernel_rfl, fun j t ht => by
        rw [Tryz.params12] at ht
        have hm : t ∈ [29] := by simpa using Array.mem_of_getElem? ht
        have hall : ([29].all fun u => !Tryz.prog.wantsStandIn u) = true := by kernel_rfl
        exact (show Tryz.prog.wantsStandIn t = false by simpa using List.all_eq_true.1 hall t hm)⟩)
    (by kernel_rfl)
#print axioms scopeClosedCard_holds
end Go.Proofs.YtgmapdcdmomioaaGreatDoor.Pa
