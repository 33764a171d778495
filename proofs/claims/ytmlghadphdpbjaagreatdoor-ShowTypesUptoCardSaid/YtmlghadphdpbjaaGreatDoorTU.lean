/- A run of the program that the laws of layer 13 ask for. -/
import Derived.Test.YtmlghadphdpbjaaGreatDoorRB
set_option linter.all false
set_option autoImplicit false
set_option maxRecDepth 100000
namespace Go.Proofs.YtmlghadphdpbjaaGreatDoor.Pa
open Go Go.RowKit Go.Proofs.YtmlghadphdpbjaaGreatDoor.Am
theorem wakes13(w:World):Calls Tryz.prog 10 #[] w λe w'=>e=.returned (.bool true)∧Go.RowKit.Below w.heap.size w w':=
 start_true okT0 (tbOf_ext _ _ _ _) (n:=2000) (by kernel_rfl) w
end Go.Proofs.YtmlghadphdpbjaaGreatDoor.Pa
