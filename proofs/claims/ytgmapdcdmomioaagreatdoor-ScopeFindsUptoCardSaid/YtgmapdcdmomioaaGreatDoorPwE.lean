/- What functions of the program do, printed by wip/tools/sx/sx.py. -/
import Derived.Test.YtgmapdcdmomioaaGreatDoorPwD
set_option linter.all false
set_option linter.all false
set_option autoImplicit false
set_option maxRecDepth 100000
namespace Go.Proofs.YtgmapdcdmomioaaGreatDoor.Pa
open Go Go.Proofs.YtgmapdcdmomioaaGreatDoor.Am
/-! f143 athanor/parse.patSized -/
def L143_3 (n1 : Int) (n5 : Int) (y2 : Dat) (g : Glob) (Qf : Out → Glob → Prop) : Prop := CutP TT Tryz.f143 [1, 1, 0, 1, 0] Qf (mkC TT 143 Tryz.f143 2 [(1, .v 3 (.int .i64 n1)), (2, .loc 2 0 0), (5, .v 3 (.int .i64 n5))] [(2, .whole 127 y2)] g)
def lo143 : List CutI := [⟨3, [(1, .keep), (2, .keep), (5, .keep)], [(2, .whole 127)]⟩]
theorem w143 {x0 : Dat} {n1 : Int} {g : Glob} {Qf : Out → Glob → Prop} (h0 : HasTy TT 127 x0)
    (h : L143_3 (IntKind.i64.wrap (n1 - 1)) 0 x0 g Qf) :
    EvF TT 143 [x0, .int .i64 n1] g Qf :=
  sx_fun (rk := rk) (fn := Tryz.f143) (loops := lo143) (joins := []) (n := 100000) (args := [(127, x0), (3, .int .i64 n1)]) rfl rfl rfl rfl ⟨h0, tyInt rfl, trivial⟩ (by kernel_rfl) h
theorem w143_3 {n1 : Int} {n5 : Int} {y2 : Dat} {g : Glob} {Qf : Out → Glob → Prop} 
    (h : Br (decide (n5 < (↑(elsOf (fld y2 3)).length : Int))) (Br (decide (0 ≤ n1)) (InB n5 (elsOf (fld y2 3)).length ∧ EvF TT 143 [getE (elsOf (fld y2 3)) n5, Dat.int IntKind.i64 n1] g fun out g' => Outc (fun x => Qf (Out.panic x) g') (fun v => ∃ n, v = Val.d (Dat.int IntKind.i64 n) ∧ L143_3 n (IntKind.i64.wrap (n5 + 1)) y2 g' Qf) out) (Qf (Out.val (Val.d (Dat.int IntKind.i64 n1))) g)) (Qf (Out.val (Val.d (Dat.int IntKind.i64 n1))) g)) :
    L143_3 n1 n5 y2 g Qf := sx_cut (rk := rk) (loops := lo143) (joins := []) (n := 100000) (by kernel_rfl) h
/-! f144 athanor/athanorref12.sizePat -/
def L144_3 (n1 : Int) (n5 : Int) (y2 : Dat) (g : Glob) (Qf : Out → Glob → Prop) : Prop := CutP TT Tryz.f144 [1, 1, 0, 1, 0] Qf (mkC TT 144 Tryz.f144 2 [(1, .v 3 (.int .i64 n1)), (2, .loc 2 0 0), (5, .v 3 (.int .i64 n5))] [(2, .whole 127 y2)] g)
def lo144 : List CutI := [⟨3, [(1, .keep), (2, .keep), (5, .keep)], [(2, .whole 127)]⟩]
theorem w144 {x0 : Dat} {n1 : Int} {g : Glob} {Qf : Out → Glob → Prop} (h0 : HasTy TT 127 x0)
    (h : L144_3 (IntKind.i64.wrap (n1 + 1)) 0 x0 g Qf) :
    EvF TT 144 [x0, .int .i64 n1] g Qf :=
  sx_fun (rk := rk) (fn := Tryz.f144) (loops := lo144) (joins := []) (n := 100000) (args := [(127, x0), (3, .int .i64 n1)]) rfl rfl rfl rfl ⟨h0, tyInt rfl, trivial⟩ (by kernel_rfl) h
theorem w144_3 {n1 : Int} {n5 : Int} {y2 : Dat} {g : Glob} {Qf : Out → Glob → Prop} 
    (h : Br (decide (n5 < (↑(elsOf (fld y2 3)).length : Int))) (Br (decide (n1 ≤ 2048)) (InB n5 (elsOf (fld y2 3)).length ∧ EvF TT 144 [getE (elsOf (fld y2 3)) n5, Dat.int IntKind.i64 n1] g fun out g' => Outc (fun x => Qf (Out.panic x) g') (fun v => ∃ n, v = Val.d (Dat.int IntKind.i64 n) ∧ L144_3 n (IntKind.i64.wrap (n5 + 1)) y2 g' Qf) out) (Qf (Out.val (Val.d (Dat.int IntKind.i64 n1))) g)) (Qf (Out.val (Val.d (Dat.int IntKind.i64 n1))) g)) :
    L144_3 n1 n5 y2 g Qf := sx_cut (rk := rk) (loops := lo144) (joins := []) (n := 100000) (by kernel_rfl) h
/-! f77 athanor/parse.sized -/
def L77_3 (n1 : Int) (n5 : Int) (y2 : Dat) (g : Glob) (Qf : Out → Glob → Prop) : Prop := CutP TT Tryz.f77 [1, 1, 0, 1, 0] Qf (mkC TT 77 Tryz.f77 2 [(1, .v 3 (.int .i64 n1)), (2, .loc 2 0 0), (5, .v 3 (.int .i64 n5))] [(2, .whole 27 y2)] g)
def L77_7 (n1 : Int) (n6 : Int) (y2 : Dat) (g : Glob) (Qf : Out → Glob → Prop) : Prop := CutP TT Tryz.f77 [1, 1, 1, 0, 1, 0] Qf (mkC TT 77 Tryz.f77 2 [(1, .v 3 (.int .i64 n1)), (2, .loc 2 0 0), (6, .v 3 (.int .i64 n6))] [(2, .whole 27 y2)] g)
def lo77 : List CutI := [⟨3, [(1, .keep), (2, .keep), (5, .keep)], [(2, .whole 27)]⟩, ⟨7, [(1, .keep), (2, .keep), (6, .keep)], [(2, .whole 27)]⟩]
theorem w77 {x0 : Dat} {n1 : Int} {g : Glob} {Qf : Out → Glob → Prop} (h0 : HasTy TT 27 x0)
    (h : L77_3 (IntKind.i64.wrap (n1 - 1)) 0 x0 g Qf) :
    EvF TT 77 [x0, .int .i64 n1] g Qf :=
  sx_fun (rk := rk) (fn := Tryz.f77) (loops := lo77) (joins := []) (n := 100000) (args := [(27, x0), (3, .int .i64 n1)]) rfl rfl rfl rfl ⟨h0, tyInt rfl, trivial⟩ (by kernel_rfl) h
theorem w77_3 {n1 : Int} {n5 : Int} {y2 : Dat} {g : Glob} {Qf : Out → Glob → Prop} 
    (h : Br (decide (n5 < (↑(elsOf (fld y2 5)).length : Int))) (Br (decide (0 ≤ n1)) (InB n5 (elsOf (fld y2 5)).length ∧ EvF TT 143 [getE (elsOf (fld y2 5)) n5, Dat.int IntKind.i64 n1] g fun out g' => Outc (fun x => Qf (Out.panic x) g') (fun v => ∃ n, v = Val.d (Dat.int IntKind.i64 n) ∧ L77_3 n (IntKind.i64.wrap (n5 + 1)) y2 g' Qf) out) (L77_7 n1 0 y2 g Qf)) (L77_7 n1 0 y2 g Qf)) :
    L77_3 n1 n5 y2 g Qf := sx_cut (rk := rk) (loops := lo77) (joins := []) (n := 100000) (by kernel_rfl) h
theorem w77_7 {n1 : Int} {n6 : Int} {y2 : Dat} {g : Glob} {Qf : Out → Glob → Prop} 
    (h : Br (decide (n6 < (↑(elsOf (fld y2 4)).length : Int))) (Br (decide (0 ≤ n1)) (InB n6 (elsOf (fld y2 4)).length ∧ EvF TT 77 [getE (elsOf (fld y2 4)) n6, Dat.int IntKind.i64 n1] g fun out g' => Outc (fun x => Qf (Out.panic x) g') (fun v => ∃ n, v = Val.d (Dat.int IntKind.i64 n) ∧ L77_7 n (IntKind.i64.wrap (n6 + 1)) y2 g' Qf) out) (Qf (Out.val (Val.d (Dat.int IntKind.i64 n1))) g)) (Qf (Out.val (Val.d (Dat.int IntKind.i64 n1))) g)) :
    L77_7 n1 n6 y2 g Qf := sx_cut (rk := rk) (loops := lo77) (joins := []) (n := 100000) (by kernel_rfl) h
/-! f78 athanor/athanorref12.sizeExpr -/
def L78_3 (n1 : Int) (n5 : Int) (y2 : Dat) (g : Glob) (Qf : Out → Glob → Prop) : Prop := CutP TT Tryz.f78 [1, 1, 0, 1, 0] Qf (mkC TT 78 Tryz.f78 2 [(1, .v 3 (.int .i64 n1)), (2, .loc 2 0 0), (5, .v 3 (.int .i64 n5))] [(2, .whole 27 y2)] g)
def L78_7 (n1 : Int) (n6 : Int) (y2 : Dat) (g : Glob) (Qf : Out → Glob → Prop) : Prop := CutP TT Tryz.f78 [1, 1, 1, 0, 1, 0] Qf (mkC TT 78 Tryz.f78 2 [(1, .v 3 (.int .i64 n1)), (2, .loc 2 0 0), (6, .v 3 (.int .i64 n6))] [(2, .whole 27 y2)] g)
def lo78 : List CutI := [⟨3, [(1, .keep), (2, .keep), (5, .keep)], [(2, .whole 27)]⟩, ⟨7, [(1, .keep), (2, .keep), (6, .keep)], [(2, .whole 27)]⟩]
theorem w78 {x0 : Dat} {n1 : Int} {g : Glob} {Qf : Out → Glob → Prop} (h0 : HasTy TT 27 x0)
    (h : L78_3 (IntKind.i64.wrap (n1 + 1)) 0 x0 g Qf) :
    EvF TT 78 [x0, .int .i64 n1] g Qf :=
  sx_fun (rk := rk) (fn := Tryz.f78) (loops := lo78) (joins := []) (n := 100000) (args := [(27, x0), (3, .int .i64 n1)]) rfl rfl rfl rfl ⟨h0, tyInt rfl, trivial⟩ (by kernel_rfl) h
theorem w78_3 {n1 : Int} {n5 : Int} {y2 : Dat} {g : Glob} {Qf : Out → Glob → Prop} 
    (h : Br (decide (n5 < (↑(elsOf (fld y2 5)).length : Int))) (Br (decide (n1 ≤ 2048)) (InB n5 (elsOf (fld y2 5)).length ∧ EvF TT 144 [getE (elsOf (fld y2 5)) n5, Dat.int IntKind.i64 n1] g fun out g' => Outc (fun x => Qf (Out.panic x) g') (fun v => ∃ n, v = Val.d (Dat.int IntKind.i64 n) ∧ L78_3 n (IntKind.i64.wrap (n5 + 1)) y2 g' Qf) out) (L78_7 n1 0 y2 g Qf)) (L78_7 n1 0 y2 g Qf)) :
    L78_3 n1 n5 y2 g Qf := sx_cut (rk := rk) (loops := lo78) (joins := []) (n := 100000) (by kernel_rfl) h
theorem w78_7 {n1 : Int} {n6 : Int} {y2 : Dat} {g : Glob} {Qf : Out → Glob → Prop} 
    (h : Br (decide (n6 < (↑(elsOf (fld y2 4)).length : Int))) (Br (decide (n1 ≤ 2048)) (InB n6 (elsOf (fld y2 4)).length ∧ EvF TT 78 [getE (elsOf (fld y2 4)) n6, Dat.int IntKind.i64 n1] g fun out g' => Outc (fun x => Qf (Out.panic x) g') (fun v => ∃ n, v = Val.d (Dat.int IntKind.i64 n) ∧ L78_7 n (IntKind.i64.wrap (n6 + 1)) y2 g' Qf) out) (Qf (Out.val (Val.d (Dat.int IntKind.i64 n1))) g)) (Qf (Out.val (Val.d (Dat.int IntKind.i64 n1))) g)) :
    L78_7 n1 n6 y2 g Qf := sx_cut (rk := rk) (loops := lo78) (joins := []) (n := 100000) (by kernel_rfl) h
/-! f26 athanor/parse.Size -/
def lo26 : List CutI := []
theorem w26 {x0 : Dat} {g : Glob} {Qf : Out → Glob → Prop} (h0 : HasTy TT 29 x0)
    (h : EvF TT 77 [sub x0 1 7, Dat.int IntKind.i64 2048] g fun out g' => Outc (fun x => Qf (Out.panic x) g') (fun v => ∃ n, v = Val.d (Dat.int IntKind.i64 n) ∧ Qf (Out.val (Val.d (Dat.int IntKind.i64 (IntKind.i64.wrap (2048 - maxS true (-1) n))))) g') out) :
    EvF TT 26 [x0] g Qf :=
  sx_fun (rk := rk) (fn := Tryz.f26) (loops := lo26) (joins := []) (n := 100000) (args := [(29, x0)]) rfl rfl rfl rfl ⟨h0, trivial⟩ (by kernel_rfl) h
/-! f27 athanor/athanorref12.Size -/
def lo27 : List CutI := []
theorem w27 {x0 : Dat} {g : Glob} {Qf : Out → Glob → Prop} (h0 : HasTy TT 29 x0)
    (h : EvF TT 78 [sub x0 1 7, Dat.int IntKind.i64 0] g fun out g' => Outc (fun x => Qf (Out.panic x) g') (fun v => ∃ n, v = Val.d (Dat.int IntKind.i64 n) ∧ Qf (Out.val (Val.d (Dat.int IntKind.i64 (maxS false n 2049)))) g') out) :
    EvF TT 27 [x0] g Qf :=
  sx_fun (rk := rk) (fn := Tryz.f27) (loops := lo27) (joins := []) (n := 100000) (args := [(29, x0)]) rfl rfl rfl rfl ⟨h0, trivial⟩ (by kernel_rfl) h
end Go.Proofs.YtgmapdcdmomioaaGreatDoor.Pa
