/- What functions of the program do, printed by wip/tools/sx/sx.py. -/
import Derived.Test.YtgmapdcdmomioaaGreatDoorPwC
set_option linter.all false
set_option linter.all false
set_option autoImplicit false
set_option maxRecDepth 100000
namespace Go.Proofs.YtgmapdcdmomioaaGreatDoor.Pa
open Go Go.Proofs.YtgmapdcdmomioaaGreatDoor.Am
/-! f6 athanor/athanorlaw12.ParseSame -/
def lo6 : List CutI := []
theorem w6 {x0 : Dat} {x1 : Dat} {g : Glob} {Qf : Out → Glob → Prop} (h0 : HasTy TT 29 x0) (h1 : HasTy TT 29 x1)
    (h : EvF TT 21 [x0] g fun out g' => Outc (fun x => Qf (Out.panic x) g') (fun v => ∃ b, v = Val.d (Dat.bool b) ∧ Br b (EvF TT 15 [] g' fun out g' => Outc (fun x => Qf (Out.panic x) g') (fun v => ∃ b, v = Val.d (Dat.bool b) ∧ Qf (Out.val (Val.d (Dat.bool b))) g') out) (EvF TT 21 [x1] g' fun out g' => Outc (fun x => Qf (Out.panic x) g') (fun v => ∃ b, v = Val.d (Dat.bool b) ∧ Br b (EvF TT 15 [] g' fun out g' => Outc (fun x => Qf (Out.panic x) g') (fun v => ∃ b, v = Val.d (Dat.bool b) ∧ Qf (Out.val (Val.d (Dat.bool b))) g') out) (EvF TT 23 [x0] g' fun out g' => Outc (fun x => Qf (Out.panic x) g') (fun v => ∃ x, HasTy TT 29 x ∧ v = Val.d x ∧ EvF TT 23 [x1] g' fun out g' => Outc (fun x => Qf (Out.panic x) g') (fun v => ∃ x_1, HasTy TT 29 x_1 ∧ v = Val.d x_1 ∧ EvF TT 22 [x, x_1] g' fun out g' => Outc (fun x => Qf (Out.panic x) g') (fun v => ∃ b, v = Val.d (Dat.bool b) ∧ EvF TT 18 [x0, x1, Dat.bool false] g' fun out g' => Outc (fun x => Qf (Out.panic x) g') (fun v => ∃ b_1, v = Val.d (Dat.bool b_1) ∧ Br (b == b_1) (EvF TT 23 [x0] g' fun out g' => Outc (fun x => Qf (Out.panic x) g') (fun v => ∃ x, HasTy TT 29 x ∧ v = Val.d x ∧ EvF TT 23 [x0] g' fun out g' => Outc (fun x => Qf (Out.panic x) g') (fun v => ∃ x_2, HasTy TT 29 x_2 ∧ v = Val.d x_2 ∧ EvF TT 22 [x, x_2] g' fun out g' => Outc (fun x => Qf (Out.panic x) g') (fun v => ∃ b, v = Val.d (Dat.bool b) ∧ Br b (EvF TT 15 [] g' fun out g' => Outc (fun x => Qf (Out.panic x) g') (fun v => ∃ b, v = Val.d (Dat.bool b) ∧ Qf (Out.val (Val.d (Dat.bool b))) g') out) (Qf (Out.val (Val.d (Dat.bool false))) g')) out) out) out) (Qf (Out.val (Val.d (Dat.bool false))) g')) out) out) out) out)) out)) out) :
    EvF TT 6 [x0, x1] g Qf :=
  sx_fun (rk := rk) (fn := Tryz.f6) (loops := lo6) (joins := []) (n := 100000) (args := [(29, x0), (29, x1)]) rfl rfl rfl rfl ⟨h0, h1, trivial⟩ (by kernel_rfl) h
end Go.Proofs.YtgmapdcdmomioaaGreatDoor.Pa
