/- A word of a kind, as the program asks it, is what the document says. What functions of the program do, printed by wip/tools/sx/sx.py. Which trees may be: the program's questions. Operations' signs, functions over slices. Which types and patterns may be: the program's tests, the document's. Which expressions may be: the program's tests, the document's. -/
import Derived.Test.YtiheejdkkjfenaaGreatDoorRG
import Derived.Test.YtiheejdkkjfenaaGreatDoorRE
set_option linter.all false
set_option autoImplicit false
set_option maxRecDepth 100000
namespace Go.Proofs.YtiheejdkkjfenaaGreatDoor.Pa
open Go Go.Proofs.YtiheejdkkjfenaaGreatDoor.Am
section
variable{s:Str}{g:Glob}{Qf:OGP}
end
end Go.Proofs.YtiheejdkkjfenaaGreatDoor.Pa
namespace Go.Proofs.YtiheejdkkjfenaaGreatDoor.Pa
open Go Go.Proofs.YtiheejdkkjfenaaGreatDoor.Am
end Go.Proofs.YtiheejdkkjfenaaGreatDoor.Pa
namespace Go.Proofs.YtiheejdkkjfenaaGreatDoor.Pa
open Go Go.Proofs.YtiheejdkkjfenaaGreatDoor.Am
section
variable{s:Str}{g:Glob}{Qf:OGP}
end
end Go.Proofs.YtiheejdkkjfenaaGreatDoor.Pa
namespace Go.Proofs.YtiheejdkkjfenaaGreatDoor.Pa
open Go Go.Proofs.YtiheejdkkjfenaaGreatDoor.Am
mutual
def vrTy:Ty→Bool
 |.mk _ s _ a=>decide (s.length<2^40)&&vrTys a
def vrTys:List Ty→Bool
 |[]=>true
 |x::l=>vrTy x&&vrTys l
end
end Go.Proofs.YtiheejdkkjfenaaGreatDoor.Pa
namespace Go.Proofs.YtiheejdkkjfenaaGreatDoor.Pa
open Go Go.Proofs.YtiheejdkkjfenaaGreatDoor.Am
end Go.Proofs.YtiheejdkkjfenaaGreatDoor.Pa
