/- The parse layers in the plain machine: tables. -/
import Derived.Test.YtgmapdcdmomioaaGreatDoorQH
import Derived.Test.YtgmapdcdmomioaaGreatDoorQE
import Derived.Test.YtgmapdcdmomioaaGreatDoorProg
set_option linter.all false
set_option linter.all false
set_option autoImplicit false
set_option maxRecDepth 100000
namespace Go.Proofs.YtgmapdcdmomioaaGreatDoor.Pa
open Go Go.Proofs.YtgmapdcdmomioaaGreatDoor.Am
/-- Which boxes are numbered. -/
def escs : FuncId → List Nat
  | 17 => [26] | 29 => [13, 11, 2] | 30 => [86] | 40 => [6, 4, 5, 3, 10, 9, 7] | 46 => [12, 6, 5, 4] | 81 => [5, 2, 6] | 89 => [7] | 147 => [5, 3, 4] | _ => []
noncomputable def T0 : Tb := tbOf Tryz.prog [43, 49] escs
theorem okT0 : T0.Ok Tryz.prog := tbOf_ok (by kernel_rfl) (by kernel_rfl) (by kernel_rfl)
/-- Every law of layer 12 that asks it: a run of the program. -/
theorem wakes12 (w : World) : Calls Tryz.prog 15 #[] w fun e w' => e = .returned (.bool true) ∧ Go.RowKit.Below w.heap.size w w' :=
  start_true okT0 (tbOf_ext _ _ _) (n := 2000) (by kernel_rfl) w
/-- Functions that are known by what they answer. -/
def exts (f : FuncId) : Option (List Dat → Glob → Option (Out × Glob)) := bif Nat.beq f 15 then some saysTrue else none
noncomputable def TT : Tb := { T0 with ext := exts }
theorem tund (t : TypeId) : TT.und t = Tryz.prog.underlying t := rfl
theorem okTT : TT.Ok Tryz.prog := withExt_ok okT0
theorem extTT : ExtOk Tryz.prog TT := fun f s h => by
  have h' : exts f = some s := h
  unfold exts at h'
  cases hf : Nat.beq f 15 with
  | false => rw [hf] at h'; cases h'
  | true =>
    rw [hf] at h'
    cases h'
    obtain rfl := Nat.eq_of_beq_eq_true hf
    exact saysTrue_ok ⟨Tryz.f15, Tryz.func15, by kernel_rfl, by kernel_rfl⟩ wakes12
theorem wakes_ok (g : Glob) (Qf : Out → Glob → Prop) (hQ : Qf (.val (.d (.bool true))) g) : EvF TT 15 [] g Qf :=
  ⟨_, _, hQ, 1, fun m hm => by obtain ⟨k, rfl⟩ : ∃ k, m = k + 1 := ⟨m - 1, by omega⟩; rfl⟩
/-- How functions' slices come back. -/
def rk : FuncId → RK := fun _ => .rd
end Go.Proofs.YtgmapdcdmomioaaGreatDoor.Pa
