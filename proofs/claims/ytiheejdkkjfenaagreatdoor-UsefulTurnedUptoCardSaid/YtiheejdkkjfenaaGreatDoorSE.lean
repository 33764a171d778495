/- Scope: the document's Check. Scope: the document's look at expressions; its Check. Scope: the document's look at expressions. Scope: the document's Check; both agree. -/
import Derived.Test.YtiheejdkkjfenaaGreatDoorSD
set_option linter.all false
set_option autoImplicit false
set_option maxRecDepth 100000
namespace Go.Proofs.YtiheejdkkjfenaaGreatDoor.Pa
open Go Go.Proofs.YtiheejdkkjfenaaGreatDoor.Am
end Go.Proofs.YtiheejdkkjfenaaGreatDoor.Pa
namespace Go.Proofs.YtiheejdkkjfenaaGreatDoor.Pa
open Go Go.Proofs.YtiheejdkkjfenaaGreatDoor.Am
def LkBox(g:Glob)(p:Nat)(D:Dat)(a c:Int):Prop:=g.boxes[p]?=some (.cells [.d D,.d (.int .i64 a),.d (.int .i64 c)])
def LkR(g:Glob)(p:Nat)(D:Dat):Option Int→Prop
 |some q=>LkBox g p D q 140
 |none=>LkBox g p D 0 0
theorem LkR.boxes{g g':Glob}{p:Nat}{D:Dat}{r:Option Int}(h:LkR g p D r)(e:g'.boxes=g.boxes):LkR g' p D r:=by
 cases r<;>(unfold LkR LkBox at*;rw[e];exact h)
end Go.Proofs.YtiheejdkkjfenaaGreatDoor.Pa
namespace Go.Proofs.YtiheejdkkjfenaaGreatDoor.Pa
open Go Go.Proofs.YtiheejdkkjfenaaGreatDoor.Am
end Go.Proofs.YtiheejdkkjfenaaGreatDoor.Pa
namespace Go.Proofs.YtiheejdkkjfenaaGreatDoor.Pa
open Go Go.Proofs.YtiheejdkkjfenaaGreatDoor.Am
end Go.Proofs.YtiheejdkkjfenaaGreatDoor.Pa
