/- The document's parser: whole expressions. The document's parser: declarations, programs. -/
import Derived.Test.YtgmapdcdmomioaaGreatDoorRO
set_option linter.all false
set_option autoImplicit false
set_option maxRecDepth 100000
namespace Go.Proofs.YtgmapdcdmomioaaGreatDoor.Pa
open Go Go.Proofs.YtgmapdcdmomioaaGreatDoor.Am
variable {V : Env} {g g0 g1 : Glob} {r : List Pk} {Qf Qi : Out → Glob → Prop} {α β γ : Type} {f : Option Int} {p : Int}
end Go.Proofs.YtgmapdcdmomioaaGreatDoor.Pa
namespace Go.Proofs.YtgmapdcdmomioaaGreatDoor.Pa
open Go Go.Proofs.YtgmapdcdmomioaaGreatDoor.Am
variable {V : Env} {g g0 g1 : Glob} {r : List Pk} {Qf Qi : Out → Glob → Prop} {α β γ : Type} {f : Option Int} {p : Int}
end Go.Proofs.YtgmapdcdmomioaaGreatDoor.Pa
