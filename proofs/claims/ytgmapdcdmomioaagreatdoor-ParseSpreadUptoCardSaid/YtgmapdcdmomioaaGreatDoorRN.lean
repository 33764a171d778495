/- What functions of the program do, printed by wip/tools/sx/sx.py. The document's parser: its state, its small steps. -/
import Derived.Test.YtgmapdcdmomioaaGreatDoorRK
import Derived.Test.YtgmapdcdmomioaaGreatDoorRM
set_option linter.all false
set_option autoImplicit false
set_option maxRecDepth 100000
namespace Go.Proofs.YtgmapdcdmomioaaGreatDoor.Pa
open Go Go.Proofs.YtgmapdcdmomioaaGreatDoor.Am
def L112_3 (p0 : Nat) (y5 : Dat) (y4 : Dat) (g : Glob) (Qf : Out → Glob → Prop) : Prop := CutP TT Tryz.f112 [1, 1, 1, 0, 0] Qf (mkC TT 112 Tryz.f112 2 [(0, .v 71 (.ptr (some (p0, 0)))), (4, .loc 4 0 0), (5, .loc 5 0 0)] [(5, .whole 27 y5), (4, .whole 27 y4)] g)
def L113_5 (p0 : Nat) (n1 : Int) (x6 : Dat) (y5 : Dat) (y4 : Dat) (g : Glob) (Qf : Out → Glob → Prop) : Prop := CutP TT Tryz.f113 [1, 1, 1, 1, 0, 0] Qf (mkC TT 113 Tryz.f113 2 [(0, .v 71 (.ptr (some (p0, 0)))), (1, .v 3 (.int .i64 n1)), (4, .loc 4 0 0), (5, .loc 5 0 0), (6, .v 61 (x6))] [(5, .whole 27 y5), (4, .whole 27 y4)] g)
def L189_5 (p0 : Nat) (y4 : Dat) (y2 : Dat) (g : Glob) (Qf : Out → Glob → Prop) : Prop := CutP TT Tryz.f189 [1, 1, 1, 1, 0, 0] Qf (mkC TT 189 Tryz.f189 1 [(0, .v 71 (.ptr (some (p0, 0)))), (2, .loc 2 0 0), (4, .loc 4 0 0)] [(4, .whole 127 y4), (2, .whole 127 y2)] g)
def L190_6 (p0 : Nat) (y4 : Dat) (y2 : Dat) (g : Glob) (Qf : Out → Glob → Prop) : Prop := CutP TT Tryz.f190 [1, 1, 1, 0, 1, 0, 1, 0, 0] Qf (mkC TT 190 Tryz.f190 1 [(0, .v 71 (.ptr (some (p0, 0)))), (2, .loc 2 0 0), (4, .loc 4 0 0)] [(4, .whole 27 y4), (2, .whole 27 y2)] g)
def L190_10 (p0 : Nat) (y5 : Dat) (y2 : Dat) (g : Glob) (Qf : Out → Glob → Prop) : Prop := CutP TT Tryz.f190 [1, 1, 1, 1, 1, 0, 0] Qf (mkC TT 190 Tryz.f190 1 [(0, .v 71 (.ptr (some (p0, 0)))), (2, .loc 2 0 0), (5, .loc 5 0 0)] [(5, .whole 27 y5), (2, .whole 27 y2)] g)
def L216_4 (p0 : Nat) (y3 : Dat) (y2 : Dat) (g : Glob) (Qf : Out → Glob → Prop) : Prop := CutP TT Tryz.f216 [1, 1, 1, 0, 0] Qf (mkC TT 216 Tryz.f216 1 [(0, .v 71 (.ptr (some (p0, 0)))), (2, .loc 2 0 0), (3, .loc 3 0 0)] [(3, .whole 94 y3), (2, .whole 94 y2)] g)
end Go.Proofs.YtgmapdcdmomioaaGreatDoor.Pa
namespace Go.Proofs.YtgmapdcdmomioaaGreatDoor.Pa
open Go Go.Proofs.YtgmapdcdmomioaaGreatDoor.Am
variable {V : Env} {g g0 g1 : Glob} {r : List Pk} {Qf Qi : Out → Glob → Prop} {α β γ : Type} {f : Option Int}
def plO : Option Int → Int
  | none => -1
  | some p => p
def rBox (V : Env) (n : Nat) (f : Option Int) : GBox := .cells [.d V.x, .d (.int .i64 n), .d (.int .i64 V.en), .d (.int .i64 (plO f))]
def RS (V : Env) (g : Glob) (f : Option Int) (r : List Pk) : Prop := (∃ pre, V.ts = pre ++ r ∧ g.boxes[V.p]? = some (rBox V pre.length f)) ∧ ∀ p, f = some p → r = [] ∧ 0 ≤ p
def RFin (V : Env) {α : Type} (ab : Dat → α) (t : TypeId) (g : Glob) (res : Res α) (Qf : Out → Glob → Prop) : Prop :=
  match res with
  | .ok v r => ∀ d g', ab d = v → HasTy TT t d → RS V g' none r → Nx V g g' → Qf (.val (.d d)) g'
  | .bad p => ∀ d g', HasTy TT t d → RS V g' (some p) [] → Nx V g g' → Qf (.val (.d d)) g'
  | .oof => False
variable {ab : Dat → α} {ab' : Dat → β} {t t' : TypeId}
end Go.Proofs.YtgmapdcdmomioaaGreatDoor.Pa
