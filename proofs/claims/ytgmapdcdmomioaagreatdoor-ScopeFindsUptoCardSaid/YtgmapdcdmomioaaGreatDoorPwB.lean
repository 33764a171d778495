/- What functions of the program do, printed by wip/tools/sx/sx.py. -/
import Derived.Test.YtgmapdcdmomioaaGreatDoorPwA
set_option linter.all false
set_option linter.all false
set_option autoImplicit false
set_option maxRecDepth 100000
namespace Go.Proofs.YtgmapdcdmomioaaGreatDoor.Pa
open Go Go.Proofs.YtgmapdcdmomioaaGreatDoor.Am
/-! f22 athanor/parse.Same -/
def lo22 : List CutI := []
theorem w22 {x0 : Dat} {x1 : Dat} {g : Glob} {Qf : Out → Glob → Prop} (h0 : HasTy TT 29 x0) (h1 : HasTy TT 29 x1)
    (h : EvF TT 59 [fld x0 0, fld x1 0, Dat.clo 60 []] g fun out g' => Outc (fun x => Qf (Out.panic x) g') (fun v => ∃ b, v = Val.d (Dat.bool b) ∧ Br b (EvF TT 66 [sub x0 1 7, sub x1 1 7] g' fun out g' => Outc (fun x => Qf (Out.panic x) g') (fun v => ∃ b, v = Val.d (Dat.bool b) ∧ Qf (Out.val (Val.d (Dat.bool b))) g') out) (Qf (Out.val (Val.d (Dat.bool false))) g')) out) :
    EvF TT 22 [x0, x1] g Qf :=
  sx_fun (rk := rk) (fn := Tryz.f22) (loops := lo22) (joins := []) (n := 100000) (args := [(29, x0), (29, x1)]) rfl rfl rfl rfl ⟨h0, h1, trivial⟩ (by kernel_rfl) h
/-! f59 slices.EqualFunc[[]athanor/api.Decl,[]athanor/api.Decl,athanor/api.Decl,athanor/api.Decl] -/
def L59_4 (x1 : Dat) (f2 : FuncId) (c2 : List Dat) (x15 : Dat) (n16 : Int) (n17 : Int) (g : Glob) (Qf : Out → Glob → Prop) : Prop := CutP TT Tryz.f59 [1, 1, 0, 1, 0] Qf (mkC TT 59 Tryz.f59 3 [(1, .v 23 (x1)), (2, .v 97 (.clo f2 c2)), (15, .v 23 (x15)), (16, .v 3 (.int .i64 n16)), (17, .v 3 (.int .i64 n17))] [] g)
def lo59 : List CutI := [⟨4, [(1, .keep), (2, .keep), (15, .keep), (16, .keep), (17, .keep)], []⟩]
theorem w59 {x0 : Dat} {x1 : Dat} {f2 : FuncId} {c2 : List Dat} {g : Glob} {Qf : Out → Glob → Prop} (h0 : HasTy TT 23 x0) (h1 : HasTy TT 23 x1)
    (h : Br ((↑(elsOf x0).length : Int) != (↑(elsOf x1).length : Int)) (Qf (Out.val (Val.d (Dat.bool false))) g) (L59_4 x1 f2 c2 x0 (↑(elsOf x0).length : Int) 0 g Qf)) :
    EvF TT 59 [x0, x1, .clo f2 c2] g Qf :=
  sx_fun (rk := rk) (fn := Tryz.f59) (loops := lo59) (joins := []) (n := 100000) (args := [(23, x0), (23, x1), (97, .clo f2 c2)]) rfl rfl rfl rfl ⟨h0, h1, tyClo rfl, trivial⟩ (by kernel_rfl) h
theorem w59_4 {x1 : Dat} {f2 : FuncId} {c2 : List Dat} {x15 : Dat} {n16 : Int} {n17 : Int} {g : Glob} {Qf : Out → Glob → Prop} 
    (h : Br (decide (n17 < n16)) (InB n17 (elsOf x15).length ∧ InB n17 (elsOf x1).length ∧ EvF TT f2 (getE (elsOf x15) n17 :: getE (elsOf x1) n17 :: c2) g fun out g' => Outc (fun x => Qf (Out.panic x) g') (fun v => ∃ b, v = Val.d (Dat.bool b) ∧ Br (!b) (Qf (Out.val (Val.d (Dat.bool false))) g') (L59_4 x1 f2 c2 x15 n16 (IntKind.i64.wrap (n17 + 1)) g' Qf)) out) (Qf (Out.val (Val.d (Dat.bool true))) g)) :
    L59_4 x1 f2 c2 x15 n16 n17 g Qf := sx_cut (rk := rk) (loops := lo59) (joins := []) (n := 100000) (by kernel_rfl) h
/-! f60 athanor/parse.Same$1 -/
def lo60 : List CutI := []
theorem w60 {x0 : Dat} {x1 : Dat} {g : Glob} {Qf : Out → Glob → Prop} (h0 : HasTy TT 76 x0) (h1 : HasTy TT 76 x1)
    (h : Br (strOf (fld x0 0) == strOf (fld x1 0)) (EvF TT 61 [fld x0 1, fld x1 1] g fun out g' => Outc (fun x => Qf (Out.panic x) g') (fun v => ∃ b, v = Val.d (Dat.bool b) ∧ Br b (EvF TT 62 [fld x0 2, fld x1 2, Dat.clo 63 []] g' fun out g' => Outc (fun x => Qf (Out.panic x) g') (fun v => ∃ b, v = Val.d (Dat.bool b) ∧ Qf (Out.val (Val.d (Dat.bool b))) g') out) (Qf (Out.val (Val.d (Dat.bool false))) g')) out) (Qf (Out.val (Val.d (Dat.bool false))) g)) :
    EvF TT 60 [x0, x1] g Qf :=
  sx_fun (rk := rk) (fn := Tryz.f60) (loops := lo60) (joins := []) (n := 100000) (args := [(76, x0), (76, x1)]) rfl rfl rfl rfl ⟨h0, h1, trivial⟩ (by kernel_rfl) h
/-! f61 slices.Equal[[]string,string] -/
def L61_4 (x0 : Dat) (x1 : Dat) (n12 : Int) (n13 : Int) (g : Glob) (Qf : Out → Glob → Prop) : Prop := CutP TT Tryz.f61 [1, 1, 0, 1, 0] Qf (mkC TT 61 Tryz.f61 2 [(0, .v 61 (x0)), (1, .v 61 (x1)), (12, .v 3 (.int .i64 n12)), (13, .v 3 (.int .i64 n13))] [] g)
def lo61 : List CutI := [⟨4, [(0, .keep), (1, .keep), (12, .keep), (13, .keep)], []⟩]
theorem w61 {x0 : Dat} {x1 : Dat} {g : Glob} {Qf : Out → Glob → Prop} (h0 : HasTy TT 61 x0) (h1 : HasTy TT 61 x1)
    (h : Br ((↑(elsOf x0).length : Int) != (↑(elsOf x1).length : Int)) (Qf (Out.val (Val.d (Dat.bool false))) g) (L61_4 x0 x1 (↑(elsOf x0).length : Int) 0 g Qf)) :
    EvF TT 61 [x0, x1] g Qf :=
  sx_fun (rk := rk) (fn := Tryz.f61) (loops := lo61) (joins := []) (n := 100000) (args := [(61, x0), (61, x1)]) rfl rfl rfl rfl ⟨h0, h1, trivial⟩ (by kernel_rfl) h
theorem w61_4 {x0 : Dat} {x1 : Dat} {n12 : Int} {n13 : Int} {g : Glob} {Qf : Out → Glob → Prop} 
    (h : Br (decide (n13 < n12)) (InB n13 (elsOf x0).length ∧ InB n13 (elsOf x1).length ∧ Br (!strOf (fld (getE (elsOf x0) n13) 0) == strOf (fld (getE (elsOf x1) n13) 0)) (Qf (Out.val (Val.d (Dat.bool false))) g) (L61_4 x0 x1 n12 (IntKind.i64.wrap (n13 + 1)) g Qf)) (Qf (Out.val (Val.d (Dat.bool true))) g)) :
    L61_4 x0 x1 n12 n13 g Qf := sx_cut (rk := rk) (loops := lo61) (joins := []) (n := 100000) (by kernel_rfl) h
/-! f62 slices.EqualFunc[[]athanor/api.Con,[]athanor/api.Con,athanor/api.Con,athanor/api.Con] -/
def L62_4 (x1 : Dat) (f2 : FuncId) (c2 : List Dat) (x15 : Dat) (n16 : Int) (n17 : Int) (g : Glob) (Qf : Out → Glob → Prop) : Prop := CutP TT Tryz.f62 [1, 1, 0, 1, 0] Qf (mkC TT 62 Tryz.f62 3 [(1, .v 74 (x1)), (2, .v 96 (.clo f2 c2)), (15, .v 74 (x15)), (16, .v 3 (.int .i64 n16)), (17, .v 3 (.int .i64 n17))] [] g)
def lo62 : List CutI := [⟨4, [(1, .keep), (2, .keep), (15, .keep), (16, .keep), (17, .keep)], []⟩]
theorem w62 {x0 : Dat} {x1 : Dat} {f2 : FuncId} {c2 : List Dat} {g : Glob} {Qf : Out → Glob → Prop} (h0 : HasTy TT 74 x0) (h1 : HasTy TT 74 x1)
    (h : Br ((↑(elsOf x0).length : Int) != (↑(elsOf x1).length : Int)) (Qf (Out.val (Val.d (Dat.bool false))) g) (L62_4 x1 f2 c2 x0 (↑(elsOf x0).length : Int) 0 g Qf)) :
    EvF TT 62 [x0, x1, .clo f2 c2] g Qf :=
  sx_fun (rk := rk) (fn := Tryz.f62) (loops := lo62) (joins := []) (n := 100000) (args := [(74, x0), (74, x1), (96, .clo f2 c2)]) rfl rfl rfl rfl ⟨h0, h1, tyClo rfl, trivial⟩ (by kernel_rfl) h
theorem w62_4 {x1 : Dat} {f2 : FuncId} {c2 : List Dat} {x15 : Dat} {n16 : Int} {n17 : Int} {g : Glob} {Qf : Out → Glob → Prop} 
    (h : Br (decide (n17 < n16)) (InB n17 (elsOf x15).length ∧ InB n17 (elsOf x1).length ∧ EvF TT f2 (getE (elsOf x15) n17 :: getE (elsOf x1) n17 :: c2) g fun out g' => Outc (fun x => Qf (Out.panic x) g') (fun v => ∃ b, v = Val.d (Dat.bool b) ∧ Br (!b) (Qf (Out.val (Val.d (Dat.bool false))) g') (L62_4 x1 f2 c2 x15 n16 (IntKind.i64.wrap (n17 + 1)) g' Qf)) out) (Qf (Out.val (Val.d (Dat.bool true))) g)) :
    L62_4 x1 f2 c2 x15 n16 n17 g Qf := sx_cut (rk := rk) (loops := lo62) (joins := []) (n := 100000) (by kernel_rfl) h
/-! f63 athanor/parse.Same$1$1 -/
def lo63 : List CutI := []
theorem w63 {x0 : Dat} {x1 : Dat} {g : Glob} {Qf : Out → Glob → Prop} (h0 : HasTy TT 91 x0) (h1 : HasTy TT 91 x1)
    (h : Br (strOf (fld x0 0) == strOf (fld x1 0)) (EvF TT 64 [fld x0 1, fld x1 1, Dat.clo 65 []] g fun out g' => Outc (fun x => Qf (Out.panic x) g') (fun v => ∃ b, v = Val.d (Dat.bool b) ∧ Qf (Out.val (Val.d (Dat.bool b))) g') out) (Qf (Out.val (Val.d (Dat.bool false))) g)) :
    EvF TT 63 [x0, x1] g Qf :=
  sx_fun (rk := rk) (fn := Tryz.f63) (loops := lo63) (joins := []) (n := 100000) (args := [(91, x0), (91, x1)]) rfl rfl rfl rfl ⟨h0, h1, trivial⟩ (by kernel_rfl) h
/-! f64 slices.EqualFunc[[]athanor/api.Type,[]athanor/api.Type,athanor/api.Type,athanor/api.Type] -/
def L64_4 (x1 : Dat) (f2 : FuncId) (c2 : List Dat) (x15 : Dat) (n16 : Int) (n17 : Int) (g : Glob) (Qf : Out → Glob → Prop) : Prop := CutP TT Tryz.f64 [1, 1, 0, 1, 0] Qf (mkC TT 64 Tryz.f64 3 [(1, .v 89 (x1)), (2, .v 95 (.clo f2 c2)), (15, .v 89 (x15)), (16, .v 3 (.int .i64 n16)), (17, .v 3 (.int .i64 n17))] [] g)
def lo64 : List CutI := [⟨4, [(1, .keep), (2, .keep), (15, .keep), (16, .keep), (17, .keep)], []⟩]
theorem w64 {x0 : Dat} {x1 : Dat} {f2 : FuncId} {c2 : List Dat} {g : Glob} {Qf : Out → Glob → Prop} (h0 : HasTy TT 89 x0) (h1 : HasTy TT 89 x1)
    (h : Br ((↑(elsOf x0).length : Int) != (↑(elsOf x1).length : Int)) (Qf (Out.val (Val.d (Dat.bool false))) g) (L64_4 x1 f2 c2 x0 (↑(elsOf x0).length : Int) 0 g Qf)) :
    EvF TT 64 [x0, x1, .clo f2 c2] g Qf :=
  sx_fun (rk := rk) (fn := Tryz.f64) (loops := lo64) (joins := []) (n := 100000) (args := [(89, x0), (89, x1), (95, .clo f2 c2)]) rfl rfl rfl rfl ⟨h0, h1, tyClo rfl, trivial⟩ (by kernel_rfl) h
theorem w64_4 {x1 : Dat} {f2 : FuncId} {c2 : List Dat} {x15 : Dat} {n16 : Int} {n17 : Int} {g : Glob} {Qf : Out → Glob → Prop} 
    (h : Br (decide (n17 < n16)) (InB n17 (elsOf x15).length ∧ InB n17 (elsOf x1).length ∧ EvF TT f2 (getE (elsOf x15) n17 :: getE (elsOf x1) n17 :: c2) g fun out g' => Outc (fun x => Qf (Out.panic x) g') (fun v => ∃ b, v = Val.d (Dat.bool b) ∧ Br (!b) (Qf (Out.val (Val.d (Dat.bool false))) g') (L64_4 x1 f2 c2 x15 n16 (IntKind.i64.wrap (n17 + 1)) g' Qf)) out) (Qf (Out.val (Val.d (Dat.bool true))) g)) :
    L64_4 x1 f2 c2 x15 n16 n17 g Qf := sx_cut (rk := rk) (loops := lo64) (joins := []) (n := 100000) (by kernel_rfl) h
/-! f65 athanor/parse.sameType -/
def lo65 : List CutI := []
theorem w65 {x0 : Dat} {x1 : Dat} {g : Glob} {Qf : Out → Glob → Prop} (h0 : HasTy TT 94 x0) (h1 : HasTy TT 94 x1)
    (h : Br (intOf (fld x0 0) == intOf (fld x1 0)) (Br (strOf (fld x0 1) == strOf (fld x1 1)) (Br (intOf (fld x0 2) == intOf (fld x1 2)) (EvF TT 64 [fld x0 3, fld x1 3, Dat.clo 65 []] g fun out g' => Outc (fun x => Qf (Out.panic x) g') (fun v => ∃ b, v = Val.d (Dat.bool b) ∧ Qf (Out.val (Val.d (Dat.bool b))) g') out) (Qf (Out.val (Val.d (Dat.bool false))) g)) (Qf (Out.val (Val.d (Dat.bool false))) g)) (Qf (Out.val (Val.d (Dat.bool false))) g)) :
    EvF TT 65 [x0, x1] g Qf :=
  sx_fun (rk := rk) (fn := Tryz.f65) (loops := lo65) (joins := []) (n := 100000) (args := [(94, x0), (94, x1)]) rfl rfl rfl rfl ⟨h0, h1, trivial⟩ (by kernel_rfl) h
/-! f66 athanor/parse.sameExpr -/
def lo66 : List CutI := []
theorem w66 {x0 : Dat} {x1 : Dat} {g : Glob} {Qf : Out → Glob → Prop} (h0 : HasTy TT 27 x0) (h1 : HasTy TT 27 x1)
    (h : Br (intOf (fld x0 0) == intOf (fld x1 0)) (Br (strOf (fld x0 1) == strOf (fld x1 1)) (Br (strOf (fld x0 2) == strOf (fld x1 2)) (Br (intOf (fld x0 3) == intOf (fld x1 3)) (EvF TT 126 [fld x0 4, fld x1 4, Dat.clo 66 []] g fun out g' => Outc (fun x => Qf (Out.panic x) g') (fun v => ∃ b, v = Val.d (Dat.bool b) ∧ Br b (EvF TT 127 [fld x0 5, fld x1 5, Dat.clo 128 []] g' fun out g' => Outc (fun x => Qf (Out.panic x) g') (fun v => ∃ b, v = Val.d (Dat.bool b) ∧ Qf (Out.val (Val.d (Dat.bool b))) g') out) (Qf (Out.val (Val.d (Dat.bool false))) g')) out) (Qf (Out.val (Val.d (Dat.bool false))) g)) (Qf (Out.val (Val.d (Dat.bool false))) g)) (Qf (Out.val (Val.d (Dat.bool false))) g)) (Qf (Out.val (Val.d (Dat.bool false))) g)) :
    EvF TT 66 [x0, x1] g Qf :=
  sx_fun (rk := rk) (fn := Tryz.f66) (loops := lo66) (joins := []) (n := 100000) (args := [(27, x0), (27, x1)]) rfl rfl rfl rfl ⟨h0, h1, trivial⟩ (by kernel_rfl) h
/-! f126 slices.EqualFunc[[]athanor/api.Expr,[]athanor/api.Expr,athanor/api.Expr,athanor/api.Expr] -/
def L126_4 (x1 : Dat) (f2 : FuncId) (c2 : List Dat) (x15 : Dat) (n16 : Int) (n17 : Int) (g : Glob) (Qf : Out → Glob → Prop) : Prop := CutP TT Tryz.f126 [1, 1, 0, 1, 0] Qf (mkC TT 126 Tryz.f126 3 [(1, .v 24 (x1)), (2, .v 98 (.clo f2 c2)), (15, .v 24 (x15)), (16, .v 3 (.int .i64 n16)), (17, .v 3 (.int .i64 n17))] [] g)
def lo126 : List CutI := [⟨4, [(1, .keep), (2, .keep), (15, .keep), (16, .keep), (17, .keep)], []⟩]
theorem w126 {x0 : Dat} {x1 : Dat} {f2 : FuncId} {c2 : List Dat} {g : Glob} {Qf : Out → Glob → Prop} (h0 : HasTy TT 24 x0) (h1 : HasTy TT 24 x1)
    (h : Br ((↑(elsOf x0).length : Int) != (↑(elsOf x1).length : Int)) (Qf (Out.val (Val.d (Dat.bool false))) g) (L126_4 x1 f2 c2 x0 (↑(elsOf x0).length : Int) 0 g Qf)) :
    EvF TT 126 [x0, x1, .clo f2 c2] g Qf :=
  sx_fun (rk := rk) (fn := Tryz.f126) (loops := lo126) (joins := []) (n := 100000) (args := [(24, x0), (24, x1), (98, .clo f2 c2)]) rfl rfl rfl rfl ⟨h0, h1, tyClo rfl, trivial⟩ (by kernel_rfl) h
theorem w126_4 {x1 : Dat} {f2 : FuncId} {c2 : List Dat} {x15 : Dat} {n16 : Int} {n17 : Int} {g : Glob} {Qf : Out → Glob → Prop} 
    (h : Br (decide (n17 < n16)) (InB n17 (elsOf x15).length ∧ InB n17 (elsOf x1).length ∧ EvF TT f2 (getE (elsOf x15) n17 :: getE (elsOf x1) n17 :: c2) g fun out g' => Outc (fun x => Qf (Out.panic x) g') (fun v => ∃ b, v = Val.d (Dat.bool b) ∧ Br (!b) (Qf (Out.val (Val.d (Dat.bool false))) g') (L126_4 x1 f2 c2 x15 n16 (IntKind.i64.wrap (n17 + 1)) g' Qf)) out) (Qf (Out.val (Val.d (Dat.bool true))) g)) :
    L126_4 x1 f2 c2 x15 n16 n17 g Qf := sx_cut (rk := rk) (loops := lo126) (joins := []) (n := 100000) (by kernel_rfl) h
/-! f127 slices.EqualFunc[[]athanor/api.Pat,[]athanor/api.Pat,athanor/api.Pat,athanor/api.Pat] -/
def L127_4 (x1 : Dat) (f2 : FuncId) (c2 : List Dat) (x15 : Dat) (n16 : Int) (n17 : Int) (g : Glob) (Qf : Out → Glob → Prop) : Prop := CutP TT Tryz.f127 [1, 1, 0, 1, 0] Qf (mkC TT 127 Tryz.f127 3 [(1, .v 25 (x1)), (2, .v 153 (.clo f2 c2)), (15, .v 25 (x15)), (16, .v 3 (.int .i64 n16)), (17, .v 3 (.int .i64 n17))] [] g)
def lo127 : List CutI := [⟨4, [(1, .keep), (2, .keep), (15, .keep), (16, .keep), (17, .keep)], []⟩]
theorem w127 {x0 : Dat} {x1 : Dat} {f2 : FuncId} {c2 : List Dat} {g : Glob} {Qf : Out → Glob → Prop} (h0 : HasTy TT 25 x0) (h1 : HasTy TT 25 x1)
    (h : Br ((↑(elsOf x0).length : Int) != (↑(elsOf x1).length : Int)) (Qf (Out.val (Val.d (Dat.bool false))) g) (L127_4 x1 f2 c2 x0 (↑(elsOf x0).length : Int) 0 g Qf)) :
    EvF TT 127 [x0, x1, .clo f2 c2] g Qf :=
  sx_fun (rk := rk) (fn := Tryz.f127) (loops := lo127) (joins := []) (n := 100000) (args := [(25, x0), (25, x1), (153, .clo f2 c2)]) rfl rfl rfl rfl ⟨h0, h1, tyClo rfl, trivial⟩ (by kernel_rfl) h
theorem w127_4 {x1 : Dat} {f2 : FuncId} {c2 : List Dat} {x15 : Dat} {n16 : Int} {n17 : Int} {g : Glob} {Qf : Out → Glob → Prop} 
    (h : Br (decide (n17 < n16)) (InB n17 (elsOf x15).length ∧ InB n17 (elsOf x1).length ∧ EvF TT f2 (getE (elsOf x15) n17 :: getE (elsOf x1) n17 :: c2) g fun out g' => Outc (fun x => Qf (Out.panic x) g') (fun v => ∃ b, v = Val.d (Dat.bool b) ∧ Br (!b) (Qf (Out.val (Val.d (Dat.bool false))) g') (L127_4 x1 f2 c2 x15 n16 (IntKind.i64.wrap (n17 + 1)) g' Qf)) out) (Qf (Out.val (Val.d (Dat.bool true))) g)) :
    L127_4 x1 f2 c2 x15 n16 n17 g Qf := sx_cut (rk := rk) (loops := lo127) (joins := []) (n := 100000) (by kernel_rfl) h
/-! f128 athanor/parse.samePat -/
def lo128 : List CutI := []
theorem w128 {x0 : Dat} {x1 : Dat} {g : Glob} {Qf : Out → Glob → Prop} (h0 : HasTy TT 127 x0) (h1 : HasTy TT 127 x1)
    (h : Br (intOf (fld x0 0) == intOf (fld x1 0)) (Br (strOf (fld x0 1) == strOf (fld x1 1)) (Br (intOf (fld x0 2) == intOf (fld x1 2)) (EvF TT 127 [fld x0 3, fld x1 3, Dat.clo 128 []] g fun out g' => Outc (fun x => Qf (Out.panic x) g') (fun v => ∃ b, v = Val.d (Dat.bool b) ∧ Qf (Out.val (Val.d (Dat.bool b))) g') out) (Qf (Out.val (Val.d (Dat.bool false))) g)) (Qf (Out.val (Val.d (Dat.bool false))) g)) (Qf (Out.val (Val.d (Dat.bool false))) g)) :
    EvF TT 128 [x0, x1] g Qf :=
  sx_fun (rk := rk) (fn := Tryz.f128) (loops := lo128) (joins := []) (n := 100000) (args := [(127, x0), (127, x1)]) rfl rfl rfl rfl ⟨h0, h1, trivial⟩ (by kernel_rfl) h
end Go.Proofs.YtgmapdcdmomioaaGreatDoor.Pa
