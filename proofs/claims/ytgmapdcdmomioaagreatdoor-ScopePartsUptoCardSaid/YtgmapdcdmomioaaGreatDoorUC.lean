/- Proved: the law ScopeParts answers true for all arguments of bulk at most 1048576 together, and they read afterwards as before (the given statement ScopePartsUptoCardSaid: the tied card). -/
import Derived.Test.YtgmapdcdmomioaaGreatDoorUB
set_option linter.all false
set_option autoImplicit false
set_option maxRecDepth 100000
namespace Go.Proofs.YtgmapdcdmomioaaGreatDoor.Pa
open Go Go.Proofs.YtgmapdcdmomioaaGreatDoor.Am Go.ChangeShapes Go.WideShapes Go.ChangeAt Go.RowKit
theorem scopeParts_named : Tryz.pinned.checked.prog.funcNamed Rows.scopePartsUptoRow.func = some 14 := by kernel_rfl
theorem scopeParts_closed : joinedFacts Tryz.pinned.checked.prog 14 Tryz.f14 (Rows.OpenSpec.upto Rows.scopePartsSpec).bare Rows.scopePartsUptoRow = true := by kernel_rfl
theorem scopeParts_holds : Rows.ScopePartsUptoSaid :=
  OpenClaim.holds_of_cond 14 Tryz.f14 rfl rfl rfl rfl rfl rfl rfl ⟨rfl, rfl, rfl, rfl, rfl⟩ rfl rfl rfl rfl rfl scopeParts_named Tryz.func14 scopeParts_closed
    (of_decide_eq_true (by kernel_rfl)) (by unfold Func.isWrapper; first | (rw [if_pos (by decide +kernel)]; kernel_rfl) | (rw [if_neg (by decide +kernel)]; exact ⟨rfl, rfl⟩))
    (fun os started H enc _ F => by
      rw [OpenClaim.pre_eq_preRow]
      exact scopeParts_lifted os started H enc F)
theorem scopeParts_row_tie : Rows.scopePartsUptoRow.laidByTextAt .later Tryz.pinned [.data, .data, .data, .sentinel, .sentinel] true :=
  OpenClaim.laidByTextAt_later rfl rfl tie noOwnUnsafe
theorem scopePartsCard_holds : Rows.ScopePartsUptoCardSaid :=
  Claim7.holds_tied_plain_at .later [] [.data, .data, .data, .sentinel, .sentinel] true (true, "de352d070b515da3f966ff8b290421961e1dea6e12fbd39f4145d1251d8e13fb") true
    scopeParts_holds (fun _ h => by cases h) (by kernel_rfl) (fun _ h => by cases h) scopeParts_row_tie rfl ⟨rfl, rfl⟩ (by kernel_rfl) rfl
    (fun f fn hf hfn => by
      obtain rfl : f = 14 := Option.some.inj ((show Tryz.prog.funcNamed "athanor/athanorlaw14.ScopeParts" = some 14 by kernel_rfl).symm.trans hf) |>.symm
      obtain rfl : fn = Tryz.f14 := (Option.some.inj (Tryz.func14.symm.trans hfn)).symm
      exact ⟨by kernel_rfl, fun j t ht => by
        rw [Tryz.params14] at ht
        have hm : t ∈ [27, 27, 9] := by simpa using Array.mem_of_getElem? ht
        have hall : ([27, 27, 9].all fun u => !Tryz.prog.wantsStandIn u) = true := by kernel_rfl
        exact (show Tryz.prog.wantsStandIn t = false by simpa using List.all_eq_true.1 hall t hm)⟩)
    (by kernel_rfl)
#print axioms scopePartsCard_holds
end Go.Proofs.YtgmapdcdmomioaaGreatDoor.Pa
