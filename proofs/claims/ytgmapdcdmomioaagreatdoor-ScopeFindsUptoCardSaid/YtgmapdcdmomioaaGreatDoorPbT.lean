/- The parse layers in the plain machine: tables. -/
import Derived.Test.YtgmapdcdmomioaaGreatDoorQH
import Derived.Test.YtgmapdcdmomioaaGreatDoorQE
import Derived.Test.YtgmapdcdmomioaaGreatDoorProg
set_option linter.all false
set_option linter.all false
set_option autoImplicit false
set_option maxRecDepth 100000
namespace Go.Proofs.YtgmapdcdmomioaaGreatDoor.Pa
open Go Go.RowKit Go.Proofs.YtgmapdcdmomioaaGreatDoor.Am
/-- Which boxes are numbered. -/
def escs : FuncId → List Nat
  | 17 => [26] | 29 => [13, 11, 2] | 30 => [86] | 40 => [6, 4, 5, 3, 10, 9, 7] | 46 => [12, 6, 5, 4] | 81 => [5, 2, 6] | 89 => [7] | 147 => [5, 3, 4] | _ => []
noncomputable def T0 : Tb := tbOf Tryz.prog [43, 49] escs
theorem okT0 : T0.Ok Tryz.prog := tbOf_ok (by kernel_rfl) (by kernel_rfl) (by kernel_rfl)
end Go.Proofs.YtgmapdcdmomioaaGreatDoor.Pa
