/- Show: the document's pen on expressions. -/
import Derived.Test.YtmlghadphdpbjaaGreatDoorPxH
set_option linter.all false
set_option autoImplicit false
set_option maxRecDepth 100000
namespace Go.Proofs.YtmlghadphdpbjaaGreatDoor.Pa
open Go Go.Proofs.YtmlghadphdpbjaaGreatDoor.Am
section
variable{g:Glob}{q k:Nat}{full:Str}{Qf:OGP}{x y z:Dat}
end
end Go.Proofs.YtmlghadphdpbjaaGreatDoor.Pa
