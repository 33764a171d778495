/- Proved: the law ScopeFinds answers true for all arguments of bulk at most 1048576 together, and they read afterwards as before (the given statement ScopeFindsUptoCardSaid: the tied card). -/
import Derived.Test.YtgmapdcdmomioaaGreatDoorPgC
set_option linter.all false
set_option linter.all false
set_option autoImplicit false
namespace Go.Proofs.YtgmapdcdmomioaaGreatDoor.Pa
open Go Go.Proofs.YtgmapdcdmomioaaGreatDoor.Am Go.ChangeShapes Go.WideShapes Go.ChangeAt Go.RowKit
set_option maxRecDepth 100000
theorem scopeFinds_named : Tryz.pinned.checked.prog.funcNamed Rows.scopeFindsUptoRow.func = some 10 := by kernel_rfl
theorem scopeFinds_closed : joinedFacts Tryz.pinned.checked.prog 10 Tryz.f10 (Rows.OpenSpec.upto Rows.scopeFindsSpec).bare Rows.scopeFindsUptoRow = true := by kernel_rfl
theorem scopeFinds_holds : Rows.ScopeFindsUptoSaid :=
  OpenClaim.holds_of_cond 10 Tryz.f10 rfl rfl rfl rfl rfl rfl rfl ⟨rfl, rfl, rfl, rfl, rfl⟩ rfl rfl rfl rfl rfl scopeFinds_named Tryz.func10 scopeFinds_closed
    (of_decide_eq_true (by kernel_rfl)) (by unfold Func.isWrapper; first | (rw [if_pos (by decide +kernel)]; kernel_rfl) | (rw [if_neg (by decide +kernel)]; exact ⟨rfl, rfl⟩))
    (fun os started H enc _ F => by
      rw [OpenClaim.pre_eq_preRow]
      exact scopeFinds_lifted os started H enc F)
theorem scopeFinds_row_tie : Rows.scopeFindsUptoRow.laidByTextAt .later Tryz.pinned [.data, .data, .data, .sentinel, .sentinel] true :=
  OpenClaim.laidByTextAt_later rfl rfl tie noOwnUnsafe
theorem scopeFindsCard_holds : Rows.ScopeFindsUptoCardSaid :=
  Claim7.holds_tied_plain_at .later [] [.data, .data, .data, .sentinel, .sentinel] true (true, "de352d070b515da3f966ff8b290421961e1dea6e12fbd39f4145d1251d8e13fb") true
    scopeFinds_holds (fun _ h => by cases h) (by kernel_rfl) (fun _ h => by cases h) scopeFinds_row_tie rfl ⟨rfl, rfl⟩ (by kernel_rfl) rfl
    (fun f fn hf hfn => by
      obtain rfl : f = 10 := Option.some.inj ((show Tryz.prog.funcNamed "athanor/athanorlaw14.ScopeFinds" = some 10 by kernel_rfl).symm.trans hf) |>.symm
      obtain rfl : fn = Tryz.f10 := (Option.some.inj (Tryz.func10.symm.trans hfn)).symm
      exact ⟨by kernel_rfl, fun j t ht => by
        rw [Tryz.params10] at ht
        have hm : t ∈ [29, 9] := by simpa using Array.mem_of_getElem? ht
        have hall : ([29, 9].all fun u => !Tryz.prog.wantsStandIn u) = true := by kernel_rfl
        exact (show Tryz.prog.wantsStandIn t = false by simpa using List.all_eq_true.1 hall t hm)⟩)
    (by kernel_rfl)
#print axioms scopeFindsCard_holds
end Go.Proofs.YtgmapdcdmomioaaGreatDoor.Pa
