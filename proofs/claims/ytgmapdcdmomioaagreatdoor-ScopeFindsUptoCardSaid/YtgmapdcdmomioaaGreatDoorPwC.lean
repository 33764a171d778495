/- What functions of the program do, printed by wip/tools/sx/sx.py. -/
import Derived.Test.YtgmapdcdmomioaaGreatDoorPwB
set_option linter.all false
set_option linter.all false
set_option autoImplicit false
set_option maxRecDepth 100000
namespace Go.Proofs.YtgmapdcdmomioaaGreatDoor.Pa
open Go Go.Proofs.YtgmapdcdmomioaaGreatDoor.Am
/-! f87 athanor/athanorref12.copyTypes -/
def L87_3 (x0 : Dat) (l3 : List Dat) (n4 : Int) (g : Glob) (Qf : Out → Glob → Prop) : Prop := CutP TT Tryz.f87 [1, 1, 0, 1, 0] Qf (mkC TT 87 Tryz.f87 1 [(0, .v 89 (x0)), (3, .acc [(23, 0)] 89 4 l3), (4, .v 3 (.int .i64 n4))] [] g)
def lo87 : List CutI := [⟨3, [(0, .keep), (3, .acc [23]), (4, .keep)], []⟩]
theorem w87 {x0 : Dat} {g : Glob} {Qf : Out → Glob → Prop} (h0 : HasTy TT 89 x0)
    (h : L87_3 x0 [] 0 g Qf) :
    EvF TT 87 [x0] g Qf :=
  sx_fun (rk := rk) (fn := Tryz.f87) (loops := lo87) (joins := []) (n := 100000) (args := [(89, x0)]) rfl rfl rfl rfl ⟨h0, trivial⟩ (by kernel_rfl) h
theorem w87_3 {x0 : Dat} {l3 : List Dat} {n4 : Int} {g : Glob} {Qf : Out → Glob → Prop} 
    (h : Br (decide (n4 < (↑(elsOf x0).length : Int))) (InB n4 (elsOf x0).length ∧ EvF TT 87 [fld (getE (elsOf x0) n4) 3] g fun out g' => Outc (fun x => Qf (Out.panic x) g') (fun v => ∃ x, HasTy TT 89 x ∧ RetV v x ∧ Fits (l3.length + [Dat.agg [Dat.int IntKind.i64 (intOf (fld (getE (elsOf x0) n4) 0)), Dat.str (strOf (fld (getE (elsOf x0) n4) 1)), Dat.int IntKind.i64 (intOf (fld (getE (elsOf x0) n4) 2)), x]].length) 56 ∧ L87_3 x0 (l3 ++ [Dat.agg [Dat.int IntKind.i64 (intOf (fld (getE (elsOf x0) n4) 0)), Dat.str (strOf (fld (getE (elsOf x0) n4) 1)), Dat.int IntKind.i64 (intOf (fld (getE (elsOf x0) n4) 2)), x]]) (IntKind.i64.wrap (n4 + 1)) g' Qf) out) (Qf (Out.val (retOf 4 l3)) g)) :
    L87_3 x0 l3 n4 g Qf := sx_cut (rk := rk) (loops := lo87) (joins := []) (n := 100000) (by kernel_rfl) h
/-! f93 athanor/athanorref12.CopyPats -/
def L93_3 (x0 : Dat) (l3 : List Dat) (n4 : Int) (g : Glob) (Qf : Out → Glob → Prop) : Prop := CutP TT Tryz.f93 [1, 1, 0, 1, 0] Qf (mkC TT 93 Tryz.f93 1 [(0, .v 25 (x0)), (3, .acc [(23, 0)] 25 5 l3), (4, .v 3 (.int .i64 n4))] [] g)
def lo93 : List CutI := [⟨3, [(0, .keep), (3, .acc [23]), (4, .keep)], []⟩]
theorem w93 {x0 : Dat} {g : Glob} {Qf : Out → Glob → Prop} (h0 : HasTy TT 25 x0)
    (h : L93_3 x0 [] 0 g Qf) :
    EvF TT 93 [x0] g Qf :=
  sx_fun (rk := rk) (fn := Tryz.f93) (loops := lo93) (joins := []) (n := 100000) (args := [(25, x0)]) rfl rfl rfl rfl ⟨h0, trivial⟩ (by kernel_rfl) h
theorem w93_3 {x0 : Dat} {l3 : List Dat} {n4 : Int} {g : Glob} {Qf : Out → Glob → Prop} 
    (h : Br (decide (n4 < (↑(elsOf x0).length : Int))) (InB n4 (elsOf x0).length ∧ EvF TT 93 [fld (getE (elsOf x0) n4) 3] g fun out g' => Outc (fun x => Qf (Out.panic x) g') (fun v => ∃ x, HasTy TT 25 x ∧ RetV v x ∧ Fits (l3.length + [Dat.agg [Dat.int IntKind.i64 (intOf (fld (getE (elsOf x0) n4) 0)), Dat.str (strOf (fld (getE (elsOf x0) n4) 1)), Dat.int IntKind.i64 (intOf (fld (getE (elsOf x0) n4) 2)), x, Dat.int IntKind.i64 (intOf (fld (getE (elsOf x0) n4) 4))]].length) 64 ∧ L93_3 x0 (l3 ++ [Dat.agg [Dat.int IntKind.i64 (intOf (fld (getE (elsOf x0) n4) 0)), Dat.str (strOf (fld (getE (elsOf x0) n4) 1)), Dat.int IntKind.i64 (intOf (fld (getE (elsOf x0) n4) 2)), x, Dat.int IntKind.i64 (intOf (fld (getE (elsOf x0) n4) 4))]]) (IntKind.i64.wrap (n4 + 1)) g' Qf) out) (Qf (Out.val (retOf 5 l3)) g)) :
    L93_3 x0 l3 n4 g Qf := sx_cut (rk := rk) (loops := lo93) (joins := []) (n := 100000) (by kernel_rfl) h
/-! f41 athanor/athanorref12.CopyExprs -/
def L41_3 (x0 : Dat) (l3 : List Dat) (n4 : Int) (g : Glob) (Qf : Out → Glob → Prop) : Prop := CutP TT Tryz.f41 [1, 1, 0, 1, 0] Qf (mkC TT 41 Tryz.f41 1 [(0, .v 24 (x0)), (3, .acc [(27, 0)] 24 7 l3), (4, .v 3 (.int .i64 n4))] [] g)
def lo41 : List CutI := [⟨3, [(0, .keep), (3, .acc [27]), (4, .keep)], []⟩]
theorem w41 {x0 : Dat} {g : Glob} {Qf : Out → Glob → Prop} (h0 : HasTy TT 24 x0)
    (h : L41_3 x0 [] 0 g Qf) :
    EvF TT 41 [x0] g Qf :=
  sx_fun (rk := rk) (fn := Tryz.f41) (loops := lo41) (joins := []) (n := 100000) (args := [(24, x0)]) rfl rfl rfl rfl ⟨h0, trivial⟩ (by kernel_rfl) h
theorem w41_3 {x0 : Dat} {l3 : List Dat} {n4 : Int} {g : Glob} {Qf : Out → Glob → Prop} 
    (h : Br (decide (n4 < (↑(elsOf x0).length : Int))) (InB n4 (elsOf x0).length ∧ EvF TT 41 [fld (getE (elsOf x0) n4) 4] g fun out g' => Outc (fun x => Qf (Out.panic x) g') (fun v => ∃ x, HasTy TT 24 x ∧ RetV v x ∧ EvF TT 93 [fld (getE (elsOf x0) n4) 5] g' fun out g' => Outc (fun x => Qf (Out.panic x) g') (fun v => ∃ x_1, HasTy TT 25 x_1 ∧ RetV v x_1 ∧ Fits (l3.length + [Dat.agg [Dat.int IntKind.i64 (intOf (fld (getE (elsOf x0) n4) 0)), Dat.str (strOf (fld (getE (elsOf x0) n4) 1)), Dat.str (strOf (fld (getE (elsOf x0) n4) 2)), Dat.int IntKind.i64 (intOf (fld (getE (elsOf x0) n4) 3)), x, x_1, Dat.int IntKind.i64 (intOf (fld (getE (elsOf x0) n4) 6))]].length) 104 ∧ L41_3 x0 (l3 ++ [Dat.agg [Dat.int IntKind.i64 (intOf (fld (getE (elsOf x0) n4) 0)), Dat.str (strOf (fld (getE (elsOf x0) n4) 1)), Dat.str (strOf (fld (getE (elsOf x0) n4) 2)), Dat.int IntKind.i64 (intOf (fld (getE (elsOf x0) n4) 3)), x, x_1, Dat.int IntKind.i64 (intOf (fld (getE (elsOf x0) n4) 6))]]) (IntKind.i64.wrap (n4 + 1)) g' Qf) out) out) (Qf (Out.val (retOf 7 l3)) g)) :
    L41_3 x0 l3 n4 g Qf := sx_cut (rk := rk) (loops := lo41) (joins := []) (n := 100000) (by kernel_rfl) h
/-! f36 athanor/athanorref12.CopyDecls -/
def L36_3 (x0 : Dat) (l3 : List Dat) (n4 : Int) (g : Glob) (Qf : Out → Glob → Prop) : Prop := CutP TT Tryz.f36 [1, 1, 0, 1, 0] Qf (mkC TT 36 Tryz.f36 1 [(0, .v 23 (x0)), (3, .acc [(52, 0)] 23 4 l3), (4, .v 3 (.int .i64 n4))] [] g)
def L36_9 (x0 : Dat) (l3 : List Dat) (n4 : Int) (l6 : List Dat) (n7 : Int) (y5 : Dat) (g : Glob) (Qf : Out → Glob → Prop) : Prop := CutP TT Tryz.f36 [1, 1, 0, 1, 0, 0, 1, 0, 0, 1, 1, 1, 0, 1, 0] Qf (mkC TT 36 Tryz.f36 1 [(0, .v 23 (x0)), (3, .acc [(52, 0)] 23 4 l3), (4, .v 3 (.int .i64 n4)), (5, .loc 5 0 0), (6, .acc [(46, 0)] 74 2 l6), (7, .v 3 (.int .i64 n7))] [(5, .whole 76 y5)] g)
def lo36 : List CutI := [⟨3, [(0, .keep), (3, .acc [52]), (4, .keep)], []⟩, ⟨9, [(0, .keep), (3, .acc [52]), (4, .keep), (5, .keep), (6, .acc [46]), (7, .keep)], [(5, .whole 76)]⟩]
theorem w36 {x0 : Dat} {g : Glob} {Qf : Out → Glob → Prop} (h0 : HasTy TT 23 x0)
    (h : L36_3 x0 [] 0 g Qf) :
    EvF TT 36 [x0] g Qf :=
  sx_fun (rk := rk) (fn := Tryz.f36) (loops := lo36) (joins := []) (n := 100000) (args := [(23, x0)]) rfl rfl rfl rfl ⟨h0, trivial⟩ (by kernel_rfl) h
theorem w36_3 {x0 : Dat} {l3 : List Dat} {n4 : Int} {g : Glob} {Qf : Out → Glob → Prop} 
    (h : Br (decide (n4 < (↑(elsOf x0).length : Int))) (InB n4 (elsOf x0).length ∧ Fits (0 + (elsOf (fld (getE (elsOf x0) n4) 1)).length) 16 ∧ L36_9 x0 l3 n4 [] 0 (Dat.agg [Dat.str (strOf (fld (getE (elsOf x0) n4) 0)), Dat.sl 1 ([] ++ elsOf (fld (getE (elsOf x0) n4) 1)), fld (getE (elsOf x0) n4) 2, Dat.int IntKind.i64 (intOf (fld (getE (elsOf x0) n4) 3))]) g Qf) (Qf (Out.val (retOf 4 l3)) g)) :
    L36_3 x0 l3 n4 g Qf := sx_cut (rk := rk) (loops := lo36) (joins := []) (n := 100000) (by kernel_rfl) h
theorem w36_9 {x0 : Dat} {l3 : List Dat} {n4 : Int} {l6 : List Dat} {n7 : Int} {y5 : Dat} {g : Glob} {Qf : Out → Glob → Prop} 
    (h : Br (decide (n7 < (↑(elsOf (fld y5 2)).length : Int))) (InB n7 (elsOf (fld y5 2)).length ∧ InB n7 (elsOf (fld y5 2)).length ∧ EvF TT 87 [fld (getE (elsOf (fld y5 2)) n7) 1] g fun out g' => Outc (fun x => Qf (Out.panic x) g') (fun v => ∃ x, HasTy TT 89 x ∧ RetV v x ∧ Fits (l6.length + [Dat.agg [Dat.str (strOf (fld (getE (elsOf (fld y5 2)) n7) 0)), x]].length) 40 ∧ L36_9 x0 l3 n4 (l6 ++ [Dat.agg [Dat.str (strOf (fld (getE (elsOf (fld y5 2)) n7) 0)), x]]) (IntKind.i64.wrap (n7 + 1)) y5 g' Qf) out) (Fits (l3.length + [Dat.agg [Dat.str (strOf (fld y5 0)), fld y5 1, slOf 2 l6, Dat.int IntKind.i64 (intOf (fld y5 3))]].length) 72 ∧ L36_3 x0 (l3 ++ [Dat.agg [Dat.str (strOf (fld y5 0)), fld y5 1, slOf 2 l6, Dat.int IntKind.i64 (intOf (fld y5 3))]]) (IntKind.i64.wrap (n4 + 1)) g Qf)) :
    L36_9 x0 l3 n4 l6 n7 y5 g Qf := sx_cut (rk := rk) (loops := lo36) (joins := []) (n := 100000) (by kernel_rfl) h
/-! f23 athanor/athanorref12.Copy -/
def lo23 : List CutI := []
theorem w23 {x0 : Dat} {g : Glob} {Qf : Out → Glob → Prop} (h0 : HasTy TT 29 x0)
    (h : EvF TT 36 [fld x0 0] g fun out g' => Outc (fun x => Qf (Out.panic x) g') (fun v => ∃ x, HasTy TT 23 x ∧ RetV v x ∧ EvF TT 41 [Dat.sl 7 [sub x0 1 7]] g' fun out g' => Outc (fun x => Qf (Out.panic x) g') (fun v => ∃ x_1, HasTy TT 24 x_1 ∧ RetV v x_1 ∧ InB 0 (elsOf x_1).length ∧ Qf (Out.val (Val.d (Dat.agg [x, Dat.int IntKind.i64 (intOf (Dat.int IntKind.i64 (intOf (fld (getE (elsOf x_1) 0) 0)))), Dat.str (strOf (Dat.str (strOf (fld (getE (elsOf x_1) 0) 1)))), Dat.str (strOf (Dat.str (strOf (fld (getE (elsOf x_1) 0) 2)))), Dat.int IntKind.i64 (intOf (Dat.int IntKind.i64 (intOf (fld (getE (elsOf x_1) 0) 3)))), fld (Dat.agg [x, Dat.int IntKind.i64 (intOf (fld (getE (elsOf x_1) 0) 0)), Dat.str (strOf (fld (getE (elsOf x_1) 0) 1)), Dat.str (strOf (fld (getE (elsOf x_1) 0) 2)), Dat.int IntKind.i64 (intOf (fld (getE (elsOf x_1) 0) 3)), fld (getE (elsOf x_1) 0) 4, fld (getE (elsOf x_1) 0) 5, Dat.int IntKind.i64 (intOf (fld (getE (elsOf x_1) 0) 6))]) 5, fld (Dat.agg [x, Dat.int IntKind.i64 (intOf (fld (getE (elsOf x_1) 0) 0)), Dat.str (strOf (fld (getE (elsOf x_1) 0) 1)), Dat.str (strOf (fld (getE (elsOf x_1) 0) 2)), Dat.int IntKind.i64 (intOf (fld (getE (elsOf x_1) 0) 3)), fld (getE (elsOf x_1) 0) 4, fld (getE (elsOf x_1) 0) 5, Dat.int IntKind.i64 (intOf (fld (getE (elsOf x_1) 0) 6))]) 6, Dat.int IntKind.i64 (intOf (Dat.int IntKind.i64 (intOf (fld (getE (elsOf x_1) 0) 6))))]))) g') out) out) :
    EvF TT 23 [x0] g Qf :=
  sx_fun (rk := rk) (fn := Tryz.f23) (loops := lo23) (joins := []) (n := 100000) (args := [(29, x0)]) rfl rfl rfl rfl ⟨h0, trivial⟩ (by kernel_rfl) h
/-! f125 athanor/athanorlaw12.weighType -/
def L125_5 (n1 : Int) (n2 : Int) (n7 : Int) (y3 : Dat) (g : Glob) (Qf : Out → Glob → Prop) : Prop := CutP TT Tryz.f125 [1, 1, 1, 0, 1, 0] Qf (mkC TT 125 Tryz.f125 3 [(1, .v 3 (.int .i64 n1)), (2, .v 3 (.int .i64 n2)), (3, .loc 3 0 0), (7, .v 3 (.int .i64 n7))] [(3, .whole 94 y3)] g)
def lo125 : List CutI := [⟨5, [(1, .keep), (2, .keep), (3, .keep), (7, .keep)], [(3, .whole 94)]⟩]
theorem w125 {x0 : Dat} {n1 : Int} {n2 : Int} {g : Glob} {Qf : Out → Glob → Prop} (h0 : HasTy TT 94 x0)
    (h : NeZ 10 ∧ Br (decide (20000 < IntKind.i64.wrap (n2 + IntKind.i64.wrap (1 + IntKind.i64.wrap ((↑(elsOf (fld x0 3)).length : Int).tdiv 10))))) (Qf (Out.val (Val.d (Dat.int IntKind.i64 (-1)))) g) (Br (decide (600 < n1)) (Qf (Out.val (Val.d (Dat.int IntKind.i64 (-1)))) g) (L125_5 n1 (IntKind.i64.wrap (n2 + IntKind.i64.wrap (1 + IntKind.i64.wrap ((↑(elsOf (fld x0 3)).length : Int).tdiv 10)))) 0 x0 g Qf))) :
    EvF TT 125 [x0, .int .i64 n1, .int .i64 n2] g Qf :=
  sx_fun (rk := rk) (fn := Tryz.f125) (loops := lo125) (joins := []) (n := 100000) (args := [(94, x0), (3, .int .i64 n1), (3, .int .i64 n2)]) rfl rfl rfl rfl ⟨h0, tyInt rfl, tyInt rfl, trivial⟩ (by kernel_rfl) h
theorem w125_5 {n1 : Int} {n2 : Int} {n7 : Int} {y3 : Dat} {g : Glob} {Qf : Out → Glob → Prop} 
    (h : Br (decide (n7 < (↑(elsOf (fld y3 3)).length : Int))) (Br (decide (0 ≤ n2)) (InB n7 (elsOf (fld y3 3)).length ∧ EvF TT 125 [getE (elsOf (fld y3 3)) n7, Dat.int IntKind.i64 (IntKind.i64.wrap (n1 + 1)), Dat.int IntKind.i64 n2] g fun out g' => Outc (fun x => Qf (Out.panic x) g') (fun v => ∃ n, v = Val.d (Dat.int IntKind.i64 n) ∧ L125_5 n1 n (IntKind.i64.wrap (n7 + 1)) y3 g' Qf) out) (Qf (Out.val (Val.d (Dat.int IntKind.i64 n2))) g)) (Qf (Out.val (Val.d (Dat.int IntKind.i64 n2))) g)) :
    L125_5 n1 n2 n7 y3 g Qf := sx_cut (rk := rk) (loops := lo125) (joins := []) (n := 100000) (by kernel_rfl) h
/-! f159 athanor/athanorlaw12.weighPat -/
def L159_5 (n1 : Int) (n2 : Int) (n7 : Int) (y3 : Dat) (g : Glob) (Qf : Out → Glob → Prop) : Prop := CutP TT Tryz.f159 [1, 1, 1, 0, 1, 0] Qf (mkC TT 159 Tryz.f159 3 [(1, .v 3 (.int .i64 n1)), (2, .v 3 (.int .i64 n2)), (3, .loc 3 0 0), (7, .v 3 (.int .i64 n7))] [(3, .whole 127 y3)] g)
def lo159 : List CutI := [⟨5, [(1, .keep), (2, .keep), (3, .keep), (7, .keep)], [(3, .whole 127)]⟩]
theorem w159 {x0 : Dat} {n1 : Int} {n2 : Int} {g : Glob} {Qf : Out → Glob → Prop} (h0 : HasTy TT 127 x0)
    (h : NeZ 10 ∧ Br (decide (20000 < IntKind.i64.wrap (n2 + IntKind.i64.wrap (1 + IntKind.i64.wrap ((↑(elsOf (fld x0 3)).length : Int).tdiv 10))))) (Qf (Out.val (Val.d (Dat.int IntKind.i64 (-1)))) g) (Br (decide (600 < n1)) (Qf (Out.val (Val.d (Dat.int IntKind.i64 (-1)))) g) (L159_5 n1 (IntKind.i64.wrap (n2 + IntKind.i64.wrap (1 + IntKind.i64.wrap ((↑(elsOf (fld x0 3)).length : Int).tdiv 10)))) 0 x0 g Qf))) :
    EvF TT 159 [x0, .int .i64 n1, .int .i64 n2] g Qf :=
  sx_fun (rk := rk) (fn := Tryz.f159) (loops := lo159) (joins := []) (n := 100000) (args := [(127, x0), (3, .int .i64 n1), (3, .int .i64 n2)]) rfl rfl rfl rfl ⟨h0, tyInt rfl, tyInt rfl, trivial⟩ (by kernel_rfl) h
theorem w159_5 {n1 : Int} {n2 : Int} {n7 : Int} {y3 : Dat} {g : Glob} {Qf : Out → Glob → Prop} 
    (h : Br (decide (n7 < (↑(elsOf (fld y3 3)).length : Int))) (Br (decide (0 ≤ n2)) (InB n7 (elsOf (fld y3 3)).length ∧ EvF TT 159 [getE (elsOf (fld y3 3)) n7, Dat.int IntKind.i64 (IntKind.i64.wrap (n1 + 1)), Dat.int IntKind.i64 n2] g fun out g' => Outc (fun x => Qf (Out.panic x) g') (fun v => ∃ n, v = Val.d (Dat.int IntKind.i64 n) ∧ L159_5 n1 n (IntKind.i64.wrap (n7 + 1)) y3 g' Qf) out) (Qf (Out.val (Val.d (Dat.int IntKind.i64 n2))) g)) (Qf (Out.val (Val.d (Dat.int IntKind.i64 n2))) g)) :
    L159_5 n1 n2 n7 y3 g Qf := sx_cut (rk := rk) (loops := lo159) (joins := []) (n := 100000) (by kernel_rfl) h
/-! f88 athanor/athanorlaw12.weighExpr -/
def L88_5 (n1 : Int) (n2 : Int) (n7 : Int) (y3 : Dat) (g : Glob) (Qf : Out → Glob → Prop) : Prop := CutP TT Tryz.f88 [1, 1, 1, 0, 1, 0] Qf (mkC TT 88 Tryz.f88 3 [(1, .v 3 (.int .i64 n1)), (2, .v 3 (.int .i64 n2)), (3, .loc 3 0 0), (7, .v 3 (.int .i64 n7))] [(3, .whole 27 y3)] g)
def L88_9 (n1 : Int) (n2 : Int) (n8 : Int) (y3 : Dat) (g : Glob) (Qf : Out → Glob → Prop) : Prop := CutP TT Tryz.f88 [1, 1, 1, 1, 0, 1, 0] Qf (mkC TT 88 Tryz.f88 3 [(1, .v 3 (.int .i64 n1)), (2, .v 3 (.int .i64 n2)), (3, .loc 3 0 0), (8, .v 3 (.int .i64 n8))] [(3, .whole 27 y3)] g)
def lo88 : List CutI := [⟨5, [(1, .keep), (2, .keep), (3, .keep), (7, .keep)], [(3, .whole 27)]⟩, ⟨9, [(1, .keep), (2, .keep), (3, .keep), (8, .keep)], [(3, .whole 27)]⟩]
theorem w88 {x0 : Dat} {n1 : Int} {n2 : Int} {g : Glob} {Qf : Out → Glob → Prop} (h0 : HasTy TT 27 x0)
    (h : NeZ 10 ∧ NeZ 10 ∧ Br (decide (20000 < IntKind.i64.wrap (n2 + IntKind.i64.wrap (IntKind.i64.wrap (1 + IntKind.i64.wrap ((↑(elsOf (fld x0 4)).length : Int).tdiv 10)) + IntKind.i64.wrap ((↑(elsOf (fld x0 5)).length : Int).tdiv 10))))) (Qf (Out.val (Val.d (Dat.int IntKind.i64 (-1)))) g) (Br (decide (600 < n1)) (Qf (Out.val (Val.d (Dat.int IntKind.i64 (-1)))) g) (L88_5 n1 (IntKind.i64.wrap (n2 + IntKind.i64.wrap (IntKind.i64.wrap (1 + IntKind.i64.wrap ((↑(elsOf (fld x0 4)).length : Int).tdiv 10)) + IntKind.i64.wrap ((↑(elsOf (fld x0 5)).length : Int).tdiv 10)))) 0 x0 g Qf))) :
    EvF TT 88 [x0, .int .i64 n1, .int .i64 n2] g Qf :=
  sx_fun (rk := rk) (fn := Tryz.f88) (loops := lo88) (joins := []) (n := 100000) (args := [(27, x0), (3, .int .i64 n1), (3, .int .i64 n2)]) rfl rfl rfl rfl ⟨h0, tyInt rfl, tyInt rfl, trivial⟩ (by kernel_rfl) h
theorem w88_5 {n1 : Int} {n2 : Int} {n7 : Int} {y3 : Dat} {g : Glob} {Qf : Out → Glob → Prop} 
    (h : Br (decide (n7 < (↑(elsOf (fld y3 5)).length : Int))) (Br (decide (0 ≤ n2)) (InB n7 (elsOf (fld y3 5)).length ∧ EvF TT 159 [getE (elsOf (fld y3 5)) n7, Dat.int IntKind.i64 (IntKind.i64.wrap (n1 + 1)), Dat.int IntKind.i64 n2] g fun out g' => Outc (fun x => Qf (Out.panic x) g') (fun v => ∃ n, v = Val.d (Dat.int IntKind.i64 n) ∧ L88_5 n1 n (IntKind.i64.wrap (n7 + 1)) y3 g' Qf) out) (L88_9 n1 n2 0 y3 g Qf)) (L88_9 n1 n2 0 y3 g Qf)) :
    L88_5 n1 n2 n7 y3 g Qf := sx_cut (rk := rk) (loops := lo88) (joins := []) (n := 100000) (by kernel_rfl) h
theorem w88_9 {n1 : Int} {n2 : Int} {n8 : Int} {y3 : Dat} {g : Glob} {Qf : Out → Glob → Prop} 
    (h : Br (decide (n8 < (↑(elsOf (fld y3 4)).length : Int))) (Br (decide (0 ≤ n2)) (InB n8 (elsOf (fld y3 4)).length ∧ EvF TT 88 [getE (elsOf (fld y3 4)) n8, Dat.int IntKind.i64 (IntKind.i64.wrap (n1 + 1)), Dat.int IntKind.i64 n2] g fun out g' => Outc (fun x => Qf (Out.panic x) g') (fun v => ∃ n, v = Val.d (Dat.int IntKind.i64 n) ∧ L88_9 n1 n (IntKind.i64.wrap (n8 + 1)) y3 g' Qf) out) (Qf (Out.val (Val.d (Dat.int IntKind.i64 n2))) g)) (Qf (Out.val (Val.d (Dat.int IntKind.i64 n2))) g)) :
    L88_9 n1 n2 n8 y3 g Qf := sx_cut (rk := rk) (loops := lo88) (joins := []) (n := 100000) (by kernel_rfl) h
/-! f58 athanor/athanorlaw12.LargeDecls -/
def L58_5 (x0 : Dat) (n3 : Int) (n4 : Int) (g : Glob) (Qf : Out → Glob → Prop) : Prop := CutP TT Tryz.f58 [1, 1, 1, 0, 1, 0] Qf (mkC TT 58 Tryz.f58 1 [(0, .v 23 (x0)), (3, .v 3 (.int .i64 n3)), (4, .v 3 (.int .i64 n4))] [] g)
def L58_10 (x0 : Dat) (n3 : Int) (n4 : Int) (n5 : Int) (g : Glob) (Qf : Out → Glob → Prop) : Prop := CutP TT Tryz.f58 [1, 1, 1, 0, 1, 0, 0, 1, 0, 0, 1, 1, 0] Qf (mkC TT 58 Tryz.f58 1 [(0, .v 23 (x0)), (3, .v 3 (.int .i64 n3)), (4, .v 3 (.int .i64 n4)), (5, .v 3 (.int .i64 n5))] [] g)
def L58_15 (x0 : Dat) (n3 : Int) (n4 : Int) (n5 : Int) (n6 : Int) (g : Glob) (Qf : Out → Glob → Prop) : Prop := CutP TT Tryz.f58 [1, 1, 1, 0, 1, 0, 0, 1, 0, 0, 1, 1, 0, 0, 1, 0, 0, 1, 0, 1, 0] Qf (mkC TT 58 Tryz.f58 1 [(0, .v 23 (x0)), (3, .v 3 (.int .i64 n3)), (4, .v 3 (.int .i64 n4)), (5, .v 3 (.int .i64 n5)), (6, .v 3 (.int .i64 n6))] [] g)
def lo58 : List CutI := [⟨5, [(0, .keep), (3, .keep), (4, .keep)], []⟩, ⟨10, [(0, .keep), (3, .keep), (4, .keep), (5, .keep)], []⟩, ⟨15, [(0, .keep), (3, .keep), (4, .keep), (5, .keep), (6, .keep)], []⟩]
theorem w58 {x0 : Dat} {g : Glob} {Qf : Out → Glob → Prop} (h0 : HasTy TT 23 x0)
    (h : Br (decide (200 < (↑(elsOf x0).length : Int))) (Qf (Out.val (Val.d (Dat.bool true))) g) (L58_5 x0 0 0 g Qf)) :
    EvF TT 58 [x0] g Qf :=
  sx_fun (rk := rk) (fn := Tryz.f58) (loops := lo58) (joins := []) (n := 100000) (args := [(23, x0)]) rfl rfl rfl rfl ⟨h0, trivial⟩ (by kernel_rfl) h
theorem w58_5 {x0 : Dat} {n3 : Int} {n4 : Int} {g : Glob} {Qf : Out → Glob → Prop} 
    (h : Br (decide (n4 < (↑(elsOf x0).length : Int))) (InB n4 (elsOf x0).length ∧ Br (decide (200 < (↑(elsOf (fld (getE (elsOf x0) n4) 2)).length : Int))) (Qf (Out.val (Val.d (Dat.bool true))) g) (InB n4 (elsOf x0).length ∧ Br (decide (200 < (↑(elsOf (fld (getE (elsOf x0) n4) 1)).length : Int))) (Qf (Out.val (Val.d (Dat.bool true))) g) (L58_10 x0 n3 n4 0 g Qf))) (Qf (Out.val (Val.d (Dat.bool false))) g)) :
    L58_5 x0 n3 n4 g Qf := sx_cut (rk := rk) (loops := lo58) (joins := []) (n := 100000) (by kernel_rfl) h
theorem w58_10 {x0 : Dat} {n3 : Int} {n4 : Int} {n5 : Int} {g : Glob} {Qf : Out → Glob → Prop} 
    (h : InB n4 (elsOf x0).length ∧ Br (decide (n5 < (↑(elsOf (fld (getE (elsOf x0) n4) 2)).length : Int))) (InB n4 (elsOf x0).length ∧ InB n5 (elsOf (fld (getE (elsOf x0) n4) 2)).length ∧ Br (decide (200 < (↑(elsOf (fld (getE (elsOf (fld (getE (elsOf x0) n4) 2)) n5) 1)).length : Int))) (Qf (Out.val (Val.d (Dat.bool true))) g) (L58_15 x0 n3 n4 n5 0 g Qf)) (L58_5 x0 n3 (IntKind.i64.wrap (n4 + 1)) g Qf)) :
    L58_10 x0 n3 n4 n5 g Qf := sx_cut (rk := rk) (loops := lo58) (joins := []) (n := 100000) (by kernel_rfl) h
theorem w58_15 {x0 : Dat} {n3 : Int} {n4 : Int} {n5 : Int} {n6 : Int} {g : Glob} {Qf : Out → Glob → Prop} 
    (h : InB n4 (elsOf x0).length ∧ InB n5 (elsOf (fld (getE (elsOf x0) n4) 2)).length ∧ Br (decide (n6 < (↑(elsOf (fld (getE (elsOf (fld (getE (elsOf x0) n4) 2)) n5) 1)).length : Int))) (Br (decide (0 ≤ n3)) (InB n4 (elsOf x0).length ∧ InB n5 (elsOf (fld (getE (elsOf x0) n4) 2)).length ∧ InB n6 (elsOf (fld (getE (elsOf (fld (getE (elsOf x0) n4) 2)) n5) 1)).length ∧ EvF TT 125 [getE (elsOf (fld (getE (elsOf (fld (getE (elsOf x0) n4) 2)) n5) 1)) n6, Dat.int IntKind.i64 0, Dat.int IntKind.i64 n3] g fun out g' => Outc (fun x => Qf (Out.panic x) g') (fun v => ∃ n, v = Val.d (Dat.int IntKind.i64 n) ∧ L58_15 x0 n n4 n5 (IntKind.i64.wrap (n6 + 1)) g' Qf) out) (Br (decide (n3 < 0)) (Qf (Out.val (Val.d (Dat.bool true))) g) (L58_10 x0 n3 n4 (IntKind.i64.wrap (n5 + 1)) g Qf))) (Br (decide (n3 < 0)) (Qf (Out.val (Val.d (Dat.bool true))) g) (L58_10 x0 n3 n4 (IntKind.i64.wrap (n5 + 1)) g Qf))) :
    L58_15 x0 n3 n4 n5 n6 g Qf := sx_cut (rk := rk) (loops := lo58) (joins := []) (n := 100000) (by kernel_rfl) h
/-! f37 athanor/athanorlaw12.LargeExpr -/
def lo37 : List CutI := []
theorem w37 {x0 : Dat} {g : Glob} {Qf : Out → Glob → Prop} (h0 : HasTy TT 27 x0)
    (h : EvF TT 88 [x0, Dat.int IntKind.i64 0, Dat.int IntKind.i64 0] g fun out g' => Outc (fun x => Qf (Out.panic x) g') (fun v => ∃ n, v = Val.d (Dat.int IntKind.i64 n) ∧ Qf (Out.val (Val.d (Dat.bool (decide (n < 0))))) g') out) :
    EvF TT 37 [x0] g Qf :=
  sx_fun (rk := rk) (fn := Tryz.f37) (loops := lo37) (joins := []) (n := 100000) (args := [(27, x0)]) rfl rfl rfl rfl ⟨h0, trivial⟩ (by kernel_rfl) h
/-! f21 athanor/athanorlaw12.Large -/
def lo21 : List CutI := []
theorem w21 {x0 : Dat} {g : Glob} {Qf : Out → Glob → Prop} (h0 : HasTy TT 29 x0)
    (h : EvF TT 58 [fld x0 0] g fun out g' => Outc (fun x => Qf (Out.panic x) g') (fun v => ∃ b, v = Val.d (Dat.bool b) ∧ Br b (Qf (Out.val (Val.d (Dat.bool true))) g') (EvF TT 37 [sub x0 1 7] g' fun out g' => Outc (fun x => Qf (Out.panic x) g') (fun v => ∃ b, v = Val.d (Dat.bool b) ∧ Qf (Out.val (Val.d (Dat.bool b))) g') out)) out) :
    EvF TT 21 [x0] g Qf :=
  sx_fun (rk := rk) (fn := Tryz.f21) (loops := lo21) (joins := []) (n := 100000) (args := [(29, x0)]) rfl rfl rfl rfl ⟨h0, trivial⟩ (by kernel_rfl) h
end Go.Proofs.YtgmapdcdmomioaaGreatDoor.Pa
