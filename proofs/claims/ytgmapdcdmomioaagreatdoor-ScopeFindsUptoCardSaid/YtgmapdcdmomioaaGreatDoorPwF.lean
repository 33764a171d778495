/- What functions of the program do, printed by wip/tools/sx/sx.py. -/
import Derived.Test.YtgmapdcdmomioaaGreatDoorPwE
set_option linter.all false
set_option linter.all false
set_option autoImplicit false
set_option maxRecDepth 100000
namespace Go.Proofs.YtgmapdcdmomioaaGreatDoor.Pa
open Go Go.Proofs.YtgmapdcdmomioaaGreatDoor.Am
/-! f105 athanor/parse.typeDeep -/
def L105_3 (n3 : Int) (x7 : Dat) (n8 : Int) (n9 : Int) (g : Glob) (Qf : Out → Glob → Prop) : Prop := CutP TT Tryz.f105 [1, 1, 0, 1, 0] Qf (mkC TT 105 Tryz.f105 1 [(3, .v 3 (.int .i64 n3)), (7, .v 89 (x7)), (8, .v 3 (.int .i64 n8)), (9, .v 3 (.int .i64 n9))] [] g)
def lo105 : List CutI := [⟨3, [(3, .keep), (7, .keep), (8, .keep), (9, .keep)], []⟩]
theorem w105 {x0 : Dat} {g : Glob} {Qf : Out → Glob → Prop} (h0 : HasTy TT 94 x0)
    (h : L105_3 0 (fld x0 3) (↑(elsOf (fld x0 3)).length : Int) 0 g Qf) :
    EvF TT 105 [x0] g Qf :=
  sx_fun (rk := rk) (fn := Tryz.f105) (loops := lo105) (joins := []) (n := 100000) (args := [(94, x0)]) rfl rfl rfl rfl ⟨h0, trivial⟩ (by kernel_rfl) h
theorem w105_3 {n3 : Int} {x7 : Dat} {n8 : Int} {n9 : Int} {g : Glob} {Qf : Out → Glob → Prop} 
    (h : Br (decide (n9 < n8)) (InB n9 (elsOf x7).length ∧ EvF TT 105 [getE (elsOf x7) n9] g fun out g' => Outc (fun x => Qf (Out.panic x) g') (fun v => ∃ n, v = Val.d (Dat.int IntKind.i64 n) ∧ L105_3 (maxS true n3 n) x7 n8 (IntKind.i64.wrap (n9 + 1)) g' Qf) out) (Qf (Out.val (Val.d (Dat.int IntKind.i64 (IntKind.i64.wrap (n3 + 1))))) g)) :
    L105_3 n3 x7 n8 n9 g Qf := sx_cut (rk := rk) (loops := lo105) (joins := []) (n := 100000) (by kernel_rfl) h
/-! f186 athanor/parse.patDeep -/
def L186_3 (n3 : Int) (x7 : Dat) (n8 : Int) (n9 : Int) (g : Glob) (Qf : Out → Glob → Prop) : Prop := CutP TT Tryz.f186 [1, 1, 0, 1, 0] Qf (mkC TT 186 Tryz.f186 1 [(3, .v 3 (.int .i64 n3)), (7, .v 25 (x7)), (8, .v 3 (.int .i64 n8)), (9, .v 3 (.int .i64 n9))] [] g)
def lo186 : List CutI := [⟨3, [(3, .keep), (7, .keep), (8, .keep), (9, .keep)], []⟩]
theorem w186 {x0 : Dat} {g : Glob} {Qf : Out → Glob → Prop} (h0 : HasTy TT 127 x0)
    (h : L186_3 0 (fld x0 3) (↑(elsOf (fld x0 3)).length : Int) 0 g Qf) :
    EvF TT 186 [x0] g Qf :=
  sx_fun (rk := rk) (fn := Tryz.f186) (loops := lo186) (joins := []) (n := 100000) (args := [(127, x0)]) rfl rfl rfl rfl ⟨h0, trivial⟩ (by kernel_rfl) h
theorem w186_3 {n3 : Int} {x7 : Dat} {n8 : Int} {n9 : Int} {g : Glob} {Qf : Out → Glob → Prop} 
    (h : Br (decide (n9 < n8)) (InB n9 (elsOf x7).length ∧ EvF TT 186 [getE (elsOf x7) n9] g fun out g' => Outc (fun x => Qf (Out.panic x) g') (fun v => ∃ n, v = Val.d (Dat.int IntKind.i64 n) ∧ L186_3 (maxS true n3 n) x7 n8 (IntKind.i64.wrap (n9 + 1)) g' Qf) out) (Qf (Out.val (Val.d (Dat.int IntKind.i64 (IntKind.i64.wrap (n3 + 1))))) g)) :
    L186_3 n3 x7 n8 n9 g Qf := sx_cut (rk := rk) (loops := lo186) (joins := []) (n := 100000) (by kernel_rfl) h
/-! f104 athanor/parse.deep -/
def L104_3 (n3 : Int) (x9 : Dat) (n10 : Int) (n11 : Int) (y1 : Dat) (g : Glob) (Qf : Out → Glob → Prop) : Prop := CutP TT Tryz.f104 [1, 1, 0, 1, 0] Qf (mkC TT 104 Tryz.f104 1 [(1, .loc 1 0 0), (3, .v 3 (.int .i64 n3)), (9, .v 25 (x9)), (10, .v 3 (.int .i64 n10)), (11, .v 3 (.int .i64 n11))] [(1, .whole 27 y1)] g)
def L104_8 (n3 : Int) (x21 : Dat) (n22 : Int) (n23 : Int) (g : Glob) (Qf : Out → Glob → Prop) : Prop := CutP TT Tryz.f104 [1, 1, 1, 0, 1, 0] Qf (mkC TT 104 Tryz.f104 1 [(3, .v 3 (.int .i64 n3)), (21, .v 24 (x21)), (22, .v 3 (.int .i64 n22)), (23, .v 3 (.int .i64 n23))] [] g)
def lo104 : List CutI := [⟨3, [(1, .keep), (3, .keep), (9, .keep), (10, .keep), (11, .keep)], [(1, .whole 27)]⟩, ⟨8, [(3, .keep), (21, .keep), (22, .keep), (23, .keep)], []⟩]
theorem w104 {x0 : Dat} {g : Glob} {Qf : Out → Glob → Prop} (h0 : HasTy TT 27 x0)
    (h : L104_3 0 (fld x0 5) (↑(elsOf (fld x0 5)).length : Int) 0 x0 g Qf) :
    EvF TT 104 [x0] g Qf :=
  sx_fun (rk := rk) (fn := Tryz.f104) (loops := lo104) (joins := []) (n := 100000) (args := [(27, x0)]) rfl rfl rfl rfl ⟨h0, trivial⟩ (by kernel_rfl) h
theorem w104_3 {n3 : Int} {x9 : Dat} {n10 : Int} {n11 : Int} {y1 : Dat} {g : Glob} {Qf : Out → Glob → Prop} 
    (h : Br (decide (n11 < n10)) (InB n11 (elsOf x9).length ∧ EvF TT 186 [getE (elsOf x9) n11] g fun out g' => Outc (fun x => Qf (Out.panic x) g') (fun v => ∃ n, v = Val.d (Dat.int IntKind.i64 n) ∧ L104_3 (maxS true n3 n) x9 n10 (IntKind.i64.wrap (n11 + 1)) y1 g' Qf) out) (L104_8 n3 (fld y1 4) (↑(elsOf (fld y1 4)).length : Int) 0 g Qf)) :
    L104_3 n3 x9 n10 n11 y1 g Qf := sx_cut (rk := rk) (loops := lo104) (joins := []) (n := 100000) (by kernel_rfl) h
theorem w104_8 {n3 : Int} {x21 : Dat} {n22 : Int} {n23 : Int} {g : Glob} {Qf : Out → Glob → Prop} 
    (h : Br (decide (n23 < n22)) (InB n23 (elsOf x21).length ∧ EvF TT 104 [getE (elsOf x21) n23] g fun out g' => Outc (fun x => Qf (Out.panic x) g') (fun v => ∃ n, v = Val.d (Dat.int IntKind.i64 n) ∧ L104_8 (maxS true n3 n) x21 n22 (IntKind.i64.wrap (n23 + 1)) g' Qf) out) (Qf (Out.val (Val.d (Dat.int IntKind.i64 (IntKind.i64.wrap (n3 + 1))))) g)) :
    L104_8 n3 x21 n22 n23 g Qf := sx_cut (rk := rk) (loops := lo104) (joins := []) (n := 100000) (by kernel_rfl) h
/-! f74 athanor/athanorref12.deepType -/
def L74_4 (n1 : Int) (n5 : Int) (y2 : Dat) (g : Glob) (Qf : Out → Glob → Prop) : Prop := CutP TT Tryz.f74 [1, 1, 0, 1, 0] Qf (mkC TT 74 Tryz.f74 2 [(1, .v 3 (.int .i64 n1)), (2, .loc 2 0 0), (5, .v 3 (.int .i64 n5))] [(2, .whole 94 y2)] g)
def lo74 : List CutI := [⟨4, [(1, .keep), (2, .keep), (5, .keep)], [(2, .whole 94)]⟩]
theorem w74 {x0 : Dat} {n1 : Int} {g : Glob} {Qf : Out → Glob → Prop} (h0 : HasTy TT 94 x0)
    (h : Br (n1 == 0) (Qf (Out.val (Val.d (Dat.bool true))) g) (L74_4 n1 0 x0 g Qf)) :
    EvF TT 74 [x0, .int .i64 n1] g Qf :=
  sx_fun (rk := rk) (fn := Tryz.f74) (loops := lo74) (joins := []) (n := 100000) (args := [(94, x0), (3, .int .i64 n1)]) rfl rfl rfl rfl ⟨h0, tyInt rfl, trivial⟩ (by kernel_rfl) h
theorem w74_4 {n1 : Int} {n5 : Int} {y2 : Dat} {g : Glob} {Qf : Out → Glob → Prop} 
    (h : Br (decide (n5 < (↑(elsOf (fld y2 3)).length : Int))) (InB n5 (elsOf (fld y2 3)).length ∧ EvF TT 74 [getE (elsOf (fld y2 3)) n5, Dat.int IntKind.i64 (IntKind.i64.wrap (n1 - 1))] g fun out g' => Outc (fun x => Qf (Out.panic x) g') (fun v => ∃ b, v = Val.d (Dat.bool b) ∧ Br b (Qf (Out.val (Val.d (Dat.bool true))) g') (L74_4 n1 (IntKind.i64.wrap (n5 + 1)) y2 g' Qf)) out) (Qf (Out.val (Val.d (Dat.bool false))) g)) :
    L74_4 n1 n5 y2 g Qf := sx_cut (rk := rk) (loops := lo74) (joins := []) (n := 100000) (by kernel_rfl) h
/-! f193 athanor/athanorref12.deepPat -/
def L193_4 (n1 : Int) (n5 : Int) (y2 : Dat) (g : Glob) (Qf : Out → Glob → Prop) : Prop := CutP TT Tryz.f193 [1, 1, 0, 1, 0] Qf (mkC TT 193 Tryz.f193 2 [(1, .v 3 (.int .i64 n1)), (2, .loc 2 0 0), (5, .v 3 (.int .i64 n5))] [(2, .whole 127 y2)] g)
def lo193 : List CutI := [⟨4, [(1, .keep), (2, .keep), (5, .keep)], [(2, .whole 127)]⟩]
theorem w193 {x0 : Dat} {n1 : Int} {g : Glob} {Qf : Out → Glob → Prop} (h0 : HasTy TT 127 x0)
    (h : Br (n1 == 0) (Qf (Out.val (Val.d (Dat.bool true))) g) (L193_4 n1 0 x0 g Qf)) :
    EvF TT 193 [x0, .int .i64 n1] g Qf :=
  sx_fun (rk := rk) (fn := Tryz.f193) (loops := lo193) (joins := []) (n := 100000) (args := [(127, x0), (3, .int .i64 n1)]) rfl rfl rfl rfl ⟨h0, tyInt rfl, trivial⟩ (by kernel_rfl) h
theorem w193_4 {n1 : Int} {n5 : Int} {y2 : Dat} {g : Glob} {Qf : Out → Glob → Prop} 
    (h : Br (decide (n5 < (↑(elsOf (fld y2 3)).length : Int))) (InB n5 (elsOf (fld y2 3)).length ∧ EvF TT 193 [getE (elsOf (fld y2 3)) n5, Dat.int IntKind.i64 (IntKind.i64.wrap (n1 - 1))] g fun out g' => Outc (fun x => Qf (Out.panic x) g') (fun v => ∃ b, v = Val.d (Dat.bool b) ∧ Br b (Qf (Out.val (Val.d (Dat.bool true))) g') (L193_4 n1 (IntKind.i64.wrap (n5 + 1)) y2 g' Qf)) out) (Qf (Out.val (Val.d (Dat.bool false))) g)) :
    L193_4 n1 n5 y2 g Qf := sx_cut (rk := rk) (loops := lo193) (joins := []) (n := 100000) (by kernel_rfl) h
/-! f115 athanor/athanorref12.deepExpr -/
def L115_4 (n1 : Int) (n5 : Int) (y2 : Dat) (g : Glob) (Qf : Out → Glob → Prop) : Prop := CutP TT Tryz.f115 [1, 1, 0, 1, 0] Qf (mkC TT 115 Tryz.f115 2 [(1, .v 3 (.int .i64 n1)), (2, .loc 2 0 0), (5, .v 3 (.int .i64 n5))] [(2, .whole 27 y2)] g)
def L115_9 (n1 : Int) (n6 : Int) (y2 : Dat) (g : Glob) (Qf : Out → Glob → Prop) : Prop := CutP TT Tryz.f115 [1, 1, 1, 0, 1, 0] Qf (mkC TT 115 Tryz.f115 2 [(1, .v 3 (.int .i64 n1)), (2, .loc 2 0 0), (6, .v 3 (.int .i64 n6))] [(2, .whole 27 y2)] g)
def lo115 : List CutI := [⟨4, [(1, .keep), (2, .keep), (5, .keep)], [(2, .whole 27)]⟩, ⟨9, [(1, .keep), (2, .keep), (6, .keep)], [(2, .whole 27)]⟩]
theorem w115 {x0 : Dat} {n1 : Int} {g : Glob} {Qf : Out → Glob → Prop} (h0 : HasTy TT 27 x0)
    (h : Br (n1 == 0) (Qf (Out.val (Val.d (Dat.bool true))) g) (L115_4 n1 0 x0 g Qf)) :
    EvF TT 115 [x0, .int .i64 n1] g Qf :=
  sx_fun (rk := rk) (fn := Tryz.f115) (loops := lo115) (joins := []) (n := 100000) (args := [(27, x0), (3, .int .i64 n1)]) rfl rfl rfl rfl ⟨h0, tyInt rfl, trivial⟩ (by kernel_rfl) h
theorem w115_4 {n1 : Int} {n5 : Int} {y2 : Dat} {g : Glob} {Qf : Out → Glob → Prop} 
    (h : Br (decide (n5 < (↑(elsOf (fld y2 5)).length : Int))) (InB n5 (elsOf (fld y2 5)).length ∧ EvF TT 193 [getE (elsOf (fld y2 5)) n5, Dat.int IntKind.i64 (IntKind.i64.wrap (n1 - 1))] g fun out g' => Outc (fun x => Qf (Out.panic x) g') (fun v => ∃ b, v = Val.d (Dat.bool b) ∧ Br b (Qf (Out.val (Val.d (Dat.bool true))) g') (L115_4 n1 (IntKind.i64.wrap (n5 + 1)) y2 g' Qf)) out) (L115_9 n1 0 y2 g Qf)) :
    L115_4 n1 n5 y2 g Qf := sx_cut (rk := rk) (loops := lo115) (joins := []) (n := 100000) (by kernel_rfl) h
theorem w115_9 {n1 : Int} {n6 : Int} {y2 : Dat} {g : Glob} {Qf : Out → Glob → Prop} 
    (h : Br (decide (n6 < (↑(elsOf (fld y2 4)).length : Int))) (InB n6 (elsOf (fld y2 4)).length ∧ EvF TT 115 [getE (elsOf (fld y2 4)) n6, Dat.int IntKind.i64 (IntKind.i64.wrap (n1 - 1))] g fun out g' => Outc (fun x => Qf (Out.panic x) g') (fun v => ∃ b, v = Val.d (Dat.bool b) ∧ Br b (Qf (Out.val (Val.d (Dat.bool true))) g') (L115_9 n1 (IntKind.i64.wrap (n6 + 1)) y2 g' Qf)) out) (Qf (Out.val (Val.d (Dat.bool false))) g)) :
    L115_9 n1 n6 y2 g Qf := sx_cut (rk := rk) (loops := lo115) (joins := []) (n := 100000) (by kernel_rfl) h
end Go.Proofs.YtgmapdcdmomioaaGreatDoor.Pa
