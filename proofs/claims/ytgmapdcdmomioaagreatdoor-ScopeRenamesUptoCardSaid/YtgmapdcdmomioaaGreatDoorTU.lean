/- A run of the program that the laws of layer 12 ask for. -/
import Derived.Test.YtgmapdcdmomioaaGreatDoorRB
set_option linter.all false
set_option autoImplicit false
set_option maxRecDepth 100000
namespace Go.Proofs.YtgmapdcdmomioaaGreatDoor.Pa
open Go Go.RowKit Go.Proofs.YtgmapdcdmomioaaGreatDoor.Am
theorem wakes12(w:World):Calls Tryz.prog 15 #[] w λe w'=>e=.returned (.bool true)∧Go.RowKit.Below w.heap.size w w':=
 start_true okT0 (tbOf_ext _ _ _ _) (n:=2000) (by kernel_rfl) w
end Go.Proofs.YtgmapdcdmomioaaGreatDoor.Pa
