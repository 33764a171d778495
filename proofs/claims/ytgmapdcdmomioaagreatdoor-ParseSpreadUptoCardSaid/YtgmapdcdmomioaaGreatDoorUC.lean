/- Proved: the law ParseSpread answers true for all arguments of bulk at most 1048576 together, and they read afterwards as before (the given statement ParseSpreadUptoCardSaid: the tied card). -/
import Derived.Test.YtgmapdcdmomioaaGreatDoorUB
set_option linter.all false
set_option autoImplicit false
set_option maxRecDepth 100000
namespace Go.Proofs.YtgmapdcdmomioaaGreatDoor.Pa
open Go Go.Proofs.YtgmapdcdmomioaaGreatDoor.Am Go.ChangeShapes Go.WideShapes Go.ChangeAt Go.RowKit
theorem parseSpread_named : Tryz.pinned.checked.prog.funcNamed Rows.parseSpreadUptoRow.func = some 5 := by kernel_rfl
theorem parseSpread_closed : joinedFacts Tryz.pinned.checked.prog 5 Tryz.f5 (Rows.OpenSpec.upto Rows.parseSpreadSpec).bare Rows.parseSpreadUptoRow = true := by kernel_rfl
theorem parseSpread_holds : Rows.ParseSpreadUptoSaid :=
  OpenClaim.holds_of_cond 5 Tryz.f5 rfl rfl rfl rfl rfl rfl rfl ⟨rfl, rfl, rfl, rfl, rfl⟩ rfl rfl rfl rfl rfl parseSpread_named Tryz.func5 parseSpread_closed
    (of_decide_eq_true (by kernel_rfl)) (by unfold Func.isWrapper; first | (rw [if_pos (by decide +kernel)]; kernel_rfl) | (rw [if_neg (by decide +kernel)]; exact ⟨rfl, rfl⟩))
    (fun os started H enc _ F => by
      rw [OpenClaim.pre_eq_preRow]
      exact parseSpread_lifted os started H enc F)
theorem parseSpread_row_tie : Rows.parseSpreadUptoRow.laidByTextAt .later Tryz.pinned [.data, .data, .data, .sentinel, .sentinel] true :=
  OpenClaim.laidByTextAt_later rfl rfl tie noOwnUnsafe
theorem parseSpreadCard_holds : Rows.ParseSpreadUptoCardSaid :=
  Claim7.holds_tied_plain_at .later [] [.data, .data, .data, .sentinel, .sentinel] true (true, "de352d070b515da3f966ff8b290421961e1dea6e12fbd39f4145d1251d8e13fb") true
    parseSpread_holds (fun _ h => by cases h) (by kernel_rfl) (fun _ h => by cases h) parseSpread_row_tie rfl ⟨rfl, rfl⟩ (by kernel_rfl) rfl
    (fun f fn hf hfn => by
      obtain rfl : f = 5 := Option.some.inj ((show Tryz.prog.funcNamed "athanor/athanorlaw12.ParseSpread" = some 5 by kernel_rfl).symm.trans hf) |>.symm
      obtain rfl : fn = Tryz.f5 := (Option.some.inj (Tryz.func5.symm.trans hfn)).symm
      exact ⟨by kernel_rfl, fun j t ht => by
        rw [Tryz.params5] at ht
        have hm : t ∈ [9] := by simpa using Array.mem_of_getElem? ht
        have hall : ([9].all fun u => !Tryz.prog.wantsStandIn u) = true := by kernel_rfl
        exact (show Tryz.prog.wantsStandIn t = false by simpa using List.all_eq_true.1 hall t hm)⟩)
    (by kernel_rfl)
#print axioms parseSpreadCard_holds
end Go.Proofs.YtgmapdcdmomioaaGreatDoor.Pa
