/- What functions of the program do, printed by wip/tools/sx/sx.py. Useful: values, and whether a pattern meets one. -/
import Derived.Test.YtiheejdkkjfenaaGreatDoorSA
set_option linter.all false
set_option autoImplicit false
set_option maxRecDepth 100000
namespace Go.Proofs.YtiheejdkkjfenaaGreatDoor.Pa
open Go Go.Proofs.YtiheejdkkjfenaaGreatDoor.Am
end Go.Proofs.YtiheejdkkjfenaaGreatDoor.Pa
namespace Go.Proofs.YtiheejdkkjfenaaGreatDoor.Pa
open Go Go.Proofs.YtiheejdkkjfenaaGreatDoor.Am
inductive Vl where
 |mk (i:Bool) (n:Int) (a:List Vl)
instance:Inhabited Vl:=⟨.mk false 0 []⟩
theorem tyn:Ha TT 24 .nil:=.nil _ (by rw[uP];rfl)
end Go.Proofs.YtiheejdkkjfenaaGreatDoor.Pa
