/- Proved: the law ParseSame answers true for every two programs of bulk at most 1048576 together, and its arguments read afterwards as before (the given statement ParseSameUptoCardSaid: the tied card). -/
import Derived.Test.YtgmapdcdmomioaaGreatDoorPeC
set_option linter.all false
set_option linter.all false
set_option autoImplicit false
namespace Go.Proofs.YtgmapdcdmomioaaGreatDoor.Pa
open Go Go.Proofs.YtgmapdcdmomioaaGreatDoor.Am Go.ChangeShapes Go.WideShapes Go.ChangeAt Go.RowKit
set_option maxRecDepth 100000
theorem same_named : Tryz.pinned.checked.prog.funcNamed Rows.parseSameUptoRow.func = some 6 := by kernel_rfl
theorem same_closed : joinedFacts Tryz.pinned.checked.prog 6 Tryz.f6 (Rows.OpenSpec.upto Rows.parseSameSpec).bare Rows.parseSameUptoRow = true := by kernel_rfl
theorem same_holds : Rows.ParseSameUptoSaid :=
  OpenClaim.holds_of_cond 6 Tryz.f6 rfl rfl rfl rfl rfl rfl rfl ⟨rfl, rfl, rfl, rfl, rfl⟩ rfl rfl rfl rfl rfl same_named Tryz.func6 same_closed
    (of_decide_eq_true (by kernel_rfl)) (by unfold Func.isWrapper; first | (rw [if_pos (by decide +kernel)]; kernel_rfl) | (rw [if_neg (by decide +kernel)]; exact ⟨rfl, rfl⟩))
    (fun os started H enc _ F => by
      rw [OpenClaim.pre_eq_preRow]
      exact same_lifted os started H enc F)
theorem same_row_tie : Rows.parseSameUptoRow.laidByTextAt .later Tryz.pinned [.data, .data, .data, .sentinel, .sentinel] true :=
  OpenClaim.laidByTextAt_later rfl rfl tie noOwnUnsafe
theorem sameCard_holds : Rows.ParseSameUptoCardSaid :=
  Claim7.holds_tied_plain_at .later [] [.data, .data, .data, .sentinel, .sentinel] true (true, "de352d070b515da3f966ff8b290421961e1dea6e12fbd39f4145d1251d8e13fb") true
    same_holds (fun _ h => by cases h) (by kernel_rfl) (fun _ h => by cases h) same_row_tie rfl ⟨rfl, rfl⟩ (by kernel_rfl) rfl
    (fun f fn hf hfn => by
      obtain rfl : f = 6 := Option.some.inj ((show Tryz.prog.funcNamed "athanor/athanorlaw12.ParseSame" = some 6 by kernel_rfl).symm.trans hf) |>.symm
      obtain rfl : fn = Tryz.f6 := (Option.some.inj (Tryz.func6.symm.trans hfn)).symm
      exact ⟨by kernel_rfl, fun j t ht => by
        rw [Tryz.params6] at ht
        have hm : t ∈ [29, 29] := by simpa using Array.mem_of_getElem? ht
        have hall : ([29, 29].all fun u => !Tryz.prog.wantsStandIn u) = true := by kernel_rfl
        exact (show Tryz.prog.wantsStandIn t = false by simpa using List.all_eq_true.1 hall t hm)⟩)
    (by kernel_rfl)
#print axioms sameCard_holds
end Go.Proofs.YtgmapdcdmomioaaGreatDoor.Pa
