/- The document's parser: its state, its small steps. The document's parser: types, patterns. The document's parser: expressions. The document's parser: whole expressions. The document's parser: declarations, programs. -/
import Derived.Test.YtmlghadphdpbjaaGreatDoorRM
import Derived.Test.YtmlghadphdpbjaaGreatDoorRK
set_option linter.all false
set_option autoImplicit false
set_option maxRecDepth 100000
namespace Go.Proofs.YtmlghadphdpbjaaGreatDoor.Pa
open Go Go.Proofs.YtmlghadphdpbjaaGreatDoor.Am
variable{V:Env}{g g0 g1:Glob}{r:List Pk}{Qf Qi:Out→Glob→Prop}{α β γ:Type}{f:Option Int}
variable{ab:Dat→α}{ab':Dat→β}{t t':TypeId}
end Go.Proofs.YtmlghadphdpbjaaGreatDoor.Pa
namespace Go.Proofs.YtmlghadphdpbjaaGreatDoor.Pa
open Go Go.Proofs.YtmlghadphdpbjaaGreatDoor.Am
variable{V:Env}{g g0 g1:Glob}{r:List Pk}{Qf Qi:Out→Glob→Prop}{α β γ:Type}{f:Option Int}{p:Int}
end Go.Proofs.YtmlghadphdpbjaaGreatDoor.Pa
namespace Go.Proofs.YtmlghadphdpbjaaGreatDoor.Pa
open Go Go.Proofs.YtmlghadphdpbjaaGreatDoor.Am
variable{V:Env}{g g0 g1:Glob}{r:List Pk}{Qf Qi:Out→Glob→Prop}{α β γ:Type}{f:Option Int}{p:Int}
theorem zExD:HasTy TT 25 (exD 0 [] [] 0 .nil .nil 0):=exD_ty (by decide) (by decide) nil_exprs nil_pats
end Go.Proofs.YtmlghadphdpbjaaGreatDoor.Pa
namespace Go.Proofs.YtmlghadphdpbjaaGreatDoor.Pa
open Go Go.Proofs.YtmlghadphdpbjaaGreatDoor.Am
variable{V:Env}{g g0 g1:Glob}{r:List Pk}{Qf Qi:Out→Glob→Prop}{α β γ:Type}{f:Option Int}{p:Int}
end Go.Proofs.YtmlghadphdpbjaaGreatDoor.Pa
namespace Go.Proofs.YtmlghadphdpbjaaGreatDoor.Pa
open Go Go.Proofs.YtmlghadphdpbjaaGreatDoor.Am
variable{V:Env}{g g0 g1:Glob}{r:List Pk}{Qf Qi:Out→Glob→Prop}{α β γ:Type}{f:Option Int}{p:Int}
end Go.Proofs.YtmlghadphdpbjaaGreatDoor.Pa
