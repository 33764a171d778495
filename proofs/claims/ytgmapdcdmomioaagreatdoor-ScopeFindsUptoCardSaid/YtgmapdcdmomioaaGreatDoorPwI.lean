/- What functions of the program do, printed by wip/tools/sx/sx.py. -/
import Derived.Test.YtgmapdcdmomioaaGreatDoorPwD
set_option linter.all false
set_option linter.all false
set_option autoImplicit false
set_option maxRecDepth 100000
namespace Go.Proofs.YtgmapdcdmomioaaGreatDoor.Pa
open Go Go.Proofs.YtgmapdcdmomioaaGreatDoor.Am
/-! f7 athanor/athanorlaw12.ParseChecks -/
def lo7 : List CutI := []
theorem w7 {x0 : Dat} {g : Glob} {Qf : Out → Glob → Prop} (h0 : HasTy TT 29 x0)
    (h : EvF TT 21 [x0] g fun out g' => Outc (fun x => Qf (Out.panic x) g') (fun v => ∃ b, v = Val.d (Dat.bool b) ∧ Br b (EvF TT 15 [] g' fun out g' => Outc (fun x => Qf (Out.panic x) g') (fun v => ∃ b, v = Val.d (Dat.bool b) ∧ Qf (Out.val (Val.d (Dat.bool b))) g') out) (EvF TT 23 [x0] g' fun out g' => Outc (fun x => Qf (Out.panic x) g') (fun v => ∃ x, HasTy TT 29 x ∧ v = Val.d x ∧ EvF TT 24 [x] g' fun out g' => Outc (fun x => Qf (Out.panic x) g') (fun v => ∃ b, v = Val.d (Dat.bool b) ∧ EvF TT 25 [x0] g' fun out g' => Outc (fun x => Qf (Out.panic x) g') (fun v => ∃ b_1, v = Val.d (Dat.bool b_1) ∧ Br (b == b_1) (EvF TT 23 [x0] g' fun out g' => Outc (fun x => Qf (Out.panic x) g') (fun v => ∃ x_1, HasTy TT 29 x_1 ∧ v = Val.d x_1 ∧ EvF TT 26 [x_1] g' fun out g' => Outc (fun x => Qf (Out.panic x) g') (fun v => ∃ n, v = Val.d (Dat.int IntKind.i64 n) ∧ EvF TT 27 [x0] g' fun out g' => Outc (fun x => Qf (Out.panic x) g') (fun v => ∃ n_1, v = Val.d (Dat.int IntKind.i64 n_1) ∧ Br (n == n_1) (EvF TT 18 [x, x0, Dat.bool true] g' fun out g' => Outc (fun x => Qf (Out.panic x) g') (fun v => ∃ b, v = Val.d (Dat.bool b) ∧ Br b (EvF TT 15 [] g' fun out g' => Outc (fun x => Qf (Out.panic x) g') (fun v => ∃ b, v = Val.d (Dat.bool b) ∧ Qf (Out.val (Val.d (Dat.bool b))) g') out) (Qf (Out.val (Val.d (Dat.bool false))) g')) out) (Qf (Out.val (Val.d (Dat.bool false))) g')) out) out) out) (Qf (Out.val (Val.d (Dat.bool false))) g')) out) out) out)) out) :
    EvF TT 7 [x0] g Qf :=
  sx_fun (rk := rk) (fn := Tryz.f7) (loops := lo7) (joins := []) (n := 100000) (args := [(29, x0)]) rfl rfl rfl rfl ⟨h0, trivial⟩ (by kernel_rfl) h
end Go.Proofs.YtgmapdcdmomioaaGreatDoor.Pa
