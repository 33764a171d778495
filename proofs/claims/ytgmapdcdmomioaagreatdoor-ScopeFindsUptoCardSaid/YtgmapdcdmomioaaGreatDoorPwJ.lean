/- What functions of the program do, printed by wip/tools/sx/sx.py. -/
import Derived.Test.YtgmapdcdmomioaaGreatDoorPwI
set_option linter.all false
set_option linter.all false
set_option autoImplicit false
set_option maxRecDepth 100000
namespace Go.Proofs.YtgmapdcdmomioaaGreatDoor.Pa
open Go Go.Proofs.YtgmapdcdmomioaaGreatDoor.Am
/-! f158 athanor/scope.twins -/
def L158_3 (l3 : List Dat) (x6 : Dat) (n7 : Int) (n8 : Int) (g : Glob) (Qf : Out → Glob → Prop) : Prop := CutP TT Tryz.f158 [1, 1, 0, 1, 0] Qf (mkC TT 158 Tryz.f158 1 [(3, .acc [(19, 0)] 89 4 l3), (6, .v 89 (x6)), (7, .v 3 (.int .i64 n7)), (8, .v 3 (.int .i64 n8))] [] g)
def lo158 : List CutI := [⟨3, [(3, .acc [19]), (6, .keep), (7, .keep), (8, .keep)], []⟩]
theorem w158 {x0 : Dat} {g : Glob} {Qf : Out → Glob → Prop} (h0 : HasTy TT 89 x0)
    (h : L158_3 [] x0 (↑(elsOf x0).length : Int) 0 g Qf) :
    EvF TT 158 [x0] g Qf :=
  sx_fun (rk := rk) (fn := Tryz.f158) (loops := lo158) (joins := []) (n := 100000) (args := [(89, x0)]) rfl rfl rfl rfl ⟨h0, trivial⟩ (by kernel_rfl) h
theorem w158_3 {l3 : List Dat} {x6 : Dat} {n7 : Int} {n8 : Int} {g : Glob} {Qf : Out → Glob → Prop} 
    (h : Br (decide (n8 < n7)) (InB n8 (elsOf x6).length ∧ EvF TT 158 [fld (getE (elsOf x6) n8) 3] g fun out g' => Outc (fun x => Qf (Out.panic x) g') (fun v => ∃ x, HasTy TT 89 x ∧ RetV v x ∧ Fits (l3.length + [Dat.agg [Dat.int IntKind.i64 (intOf (fld (getE (elsOf x6) n8) 0)), Dat.str (strOf (fld (getE (elsOf x6) n8) 1)), Dat.int IntKind.i64 (intOf (fld (getE (elsOf x6) n8) 2)), x]].length) 56 ∧ L158_3 (l3 ++ [Dat.agg [Dat.int IntKind.i64 (intOf (fld (getE (elsOf x6) n8) 0)), Dat.str (strOf (fld (getE (elsOf x6) n8) 1)), Dat.int IntKind.i64 (intOf (fld (getE (elsOf x6) n8) 2)), x]]) x6 n7 (IntKind.i64.wrap (n8 + 1)) g' Qf) out) (Qf (Out.val (retOf 4 l3)) g)) :
    L158_3 l3 x6 n7 n8 g Qf := sx_cut (rk := rk) (loops := lo158) (joins := []) (n := 100000) (by kernel_rfl) h
/-! f85 athanor/scope.twin -/
def L85_4 (l3 : List Dat) (x11 : Dat) (n12 : Int) (n13 : Int) (y2 : Dat) (y1 : Dat) (g : Glob) (Qf : Out → Glob → Prop) : Prop := CutP TT Tryz.f85 [1, 1, 1, 0, 1, 0] Qf (mkC TT 85 Tryz.f85 1 [(1, .loc 1 0 0), (2, .loc 2 0 0), (3, .acc [(25, 0)] 74 2 l3), (11, .v 74 (x11)), (12, .v 3 (.int .i64 n12)), (13, .v 3 (.int .i64 n13))] [(2, .whole 76 y2), (1, .whole 76 y1)] g)
def lo85 : List CutI := [⟨4, [(1, .keep), (2, .keep), (3, .acc [25]), (11, .read), (12, .keep), (13, .keep)], [(2, .whole 76), (1, .whole 76)]⟩]
theorem w85 {x0 : Dat} {g : Glob} {Qf : Out → Glob → Prop} (h0 : HasTy TT 76 x0)
    (h : EvF TT 157 [fld x0 1] g fun out g' => Outc (fun x => Qf (Out.panic x) g') (fun v => ∃ x, HasTy TT 61 x ∧ RetV v x ∧ L85_4 [] (fld x0 2) (↑(elsOf (fld x0 2)).length : Int) 0 (Dat.agg [Dat.str [], Dat.nil, Dat.nil, Dat.int IntKind.i64 0]) (Dat.agg [Dat.str (strOf (fld x0 0)), x, fld x0 2, Dat.int IntKind.i64 (intOf (fld x0 3))]) g' Qf) out) :
    EvF TT 85 [x0] g Qf :=
  sx_fun (rk := rk) (fn := Tryz.f85) (loops := lo85) (joins := []) (n := 100000) (args := [(76, x0)]) rfl rfl rfl rfl ⟨h0, trivial⟩ (by kernel_rfl) h
theorem w85_4 {l3 : List Dat} {x11 : Dat} {n12 : Int} {n13 : Int} {y2 : Dat} {y1 : Dat} {g : Glob} {Qf : Out → Glob → Prop} 
    (h : Br (decide (n13 < n12)) (InB n13 (elsOf x11).length ∧ EvF TT 158 [fld (getE (elsOf x11) n13) 1] g fun out g' => Outc (fun x => Qf (Out.panic x) g') (fun v => ∃ x, HasTy TT 89 x ∧ RetV v x ∧ Fits (l3.length + [Dat.agg [Dat.str (strOf (fld (getE (elsOf x11) n13) 0)), x]].length) 40 ∧ L85_4 (l3 ++ [Dat.agg [Dat.str (strOf (fld (getE (elsOf x11) n13) 0)), x]]) x11 n12 (IntKind.i64.wrap (n13 + 1)) y2 y1 g' Qf) out) (Qf (Out.val (Val.d (Dat.agg [Dat.str (strOf (Dat.str (strOf (fld y1 0)))), fld (Dat.agg [Dat.str (strOf (fld y1 0)), fld y1 1, slOf 2 l3, Dat.int IntKind.i64 (intOf (fld y1 3))]) 1, fld (Dat.agg [Dat.str (strOf (fld y1 0)), fld y1 1, slOf 2 l3, Dat.int IntKind.i64 (intOf (fld y1 3))]) 2, Dat.int IntKind.i64 (intOf (Dat.int IntKind.i64 (intOf (fld y1 3))))]))) g)) :
    L85_4 l3 x11 n12 n13 y2 y1 g Qf := sx_cut (rk := rk) (loops := lo85) (joins := []) (n := 100000) (by kernel_rfl) h
/-! f31 athanor/scope.All -/
def L31_3 (l3 : List Dat) (x25 : Dat) (n26 : Int) (n27 : Int) (g : Glob) (Qf : Out → Glob → Prop) : Prop := CutP TT Tryz.f31 [1, 1, 0, 1, 0] Qf (mkC TT 31 Tryz.f31 1 [(3, .own 23 0 23 4 l3), (25, .v 23 (x25)), (26, .v 3 (.int .i64 n26)), (27, .v 3 (.int .i64 n27))] [] g)
def lo31 : List CutI := [⟨3, [(3, .keep), (25, .keep), (26, .keep), (27, .keep)], []⟩]
theorem w31 {x0 : Dat} {g : Glob} {Qf : Out → Glob → Prop} (h0 : HasTy TT 29 x0)
    (h : L31_3 [Dat.agg [Dat.str [117, 110, 105, 116], Dat.nil, Dat.sl 2 [Dat.agg [Dat.str [85, 110, 105, 116], Dat.nil]], Dat.int IntKind.i64 0], Dat.agg [Dat.str [98, 111, 111, 108], Dat.nil, Dat.sl 2 [Dat.agg [Dat.str [70, 97, 108, 115, 101], Dat.nil], Dat.agg [Dat.str [84, 114, 117, 101], Dat.nil]], Dat.int IntKind.i64 0], Dat.agg [Dat.str [108, 105, 115, 116], Dat.sl 1 [Dat.str [97]], Dat.sl 2 [Dat.agg [Dat.str [78, 105, 108], Dat.nil], Dat.agg [Dat.str [67, 111, 110, 115], Dat.sl 4 [Dat.agg [Dat.int IntKind.i64 2, Dat.str [97], Dat.int IntKind.i64 0, Dat.nil], Dat.agg [Dat.int IntKind.i64 4, Dat.str [108, 105, 115, 116], Dat.int IntKind.i64 0, Dat.sl 4 [Dat.agg [Dat.int IntKind.i64 2, Dat.str [97], Dat.int IntKind.i64 0, Dat.nil]]]]]], Dat.int IntKind.i64 0]] (fld x0 0) (↑(elsOf (fld x0 0)).length : Int) 0 g Qf) :
    EvF TT 31 [x0] g Qf :=
  sx_fun (rk := rk) (fn := Tryz.f31) (loops := lo31) (joins := []) (n := 100000) (args := [(29, x0)]) rfl rfl rfl rfl ⟨h0, trivial⟩ (by kernel_rfl) h
theorem w31_3 {l3 : List Dat} {x25 : Dat} {n26 : Int} {n27 : Int} {g : Glob} {Qf : Out → Glob → Prop} 
    (h : Br (decide (n27 < n26)) (InB n27 (elsOf x25).length ∧ EvF TT 85 [getE (elsOf x25) n27] g fun out g' => Outc (fun x => Qf (Out.panic x) g') (fun v => ∃ x, HasTy TT 76 x ∧ v = Val.d x ∧ Fits (l3.length + [x].length) 72 ∧ L31_3 (l3 ++ [x]) x25 n26 (IntKind.i64.wrap (n27 + 1)) g' Qf) out) (Qf (Out.val (Val.uq 4 l3)) g)) :
    L31_3 l3 x25 n26 n27 g Qf := sx_cut (rk := rk) (loops := lo31) (joins := []) (n := 100000) (by kernel_rfl) h
/-! f32 athanor/athanorref14.All -/
def lo32 : List CutI := []
theorem w32 {x0 : Dat} {g : Glob} {Qf : Out → Glob → Prop} (h0 : HasTy TT 29 x0)
    (h : EvF TT 36 [fld x0 0] g fun out g' => Outc (fun x => Qf (Out.panic x) g') (fun v => ∃ x, HasTy TT 23 x ∧ RetV v x ∧ Fits (3 + (elsOf x).length) 72 ∧ Qf (Out.val (Val.uq 4 (Dat.agg [Dat.str [117, 110, 105, 116], Dat.nil, Dat.sl 2 [Dat.agg [Dat.str [85, 110, 105, 116], Dat.nil]], Dat.int IntKind.i64 0] :: Dat.agg [Dat.str [98, 111, 111, 108], Dat.nil, Dat.sl 2 [Dat.agg [Dat.str [70, 97, 108, 115, 101], Dat.nil], Dat.agg [Dat.str [84, 114, 117, 101], Dat.nil]], Dat.int IntKind.i64 0] :: Dat.agg [Dat.str [108, 105, 115, 116], Dat.sl 1 [Dat.str [97]], Dat.sl 2 [Dat.agg [Dat.str [78, 105, 108], Dat.nil], Dat.agg [Dat.str [67, 111, 110, 115], Dat.sl 4 [Dat.agg [Dat.int IntKind.i64 2, Dat.str [97], Dat.int IntKind.i64 0, Dat.nil], Dat.agg [Dat.int IntKind.i64 4, Dat.str [108, 105, 115, 116], Dat.int IntKind.i64 0, Dat.sl 4 [Dat.agg [Dat.int IntKind.i64 2, Dat.str [97], Dat.int IntKind.i64 0, Dat.nil]]]]]], Dat.int IntKind.i64 0] :: (elsOf x)))) g') out) :
    EvF TT 32 [x0] g Qf :=
  sx_fun (rk := rk) (fn := Tryz.f32) (loops := lo32) (joins := []) (n := 100000) (args := [(29, x0)]) rfl rfl rfl rfl ⟨h0, trivial⟩ (by kernel_rfl) h
/-! f34 athanor/scope.Find -/
def L34_2 (s1 : List UInt8) (x11 : Dat) (n12 : Int) (n13 : Int) (g : Glob) (Qf : Out → Glob → Prop) : Prop := CutP TT Tryz.f34 [1, 0, 1, 0] Qf (mkC TT 34 Tryz.f34 2 [(1, .v 9 (.str s1)), (11, .v 23 (x11)), (12, .v 3 (.int .i64 n12)), (13, .v 3 (.int .i64 n13))] [] g)
def L34_5 (s1 : List UInt8) (n7 : Int) (x11 : Dat) (n12 : Int) (n13 : Int) (x19 : Dat) (n20 : Int) (n21 : Int) (g : Glob) (Qf : Out → Glob → Prop) : Prop := CutP TT Tryz.f34 [1, 0, 1, 0, 0, 1, 1, 0, 0, 1, 1, 0] Qf (mkC TT 34 Tryz.f34 2 [(1, .v 9 (.str s1)), (7, .v 3 (.int .i64 n7)), (11, .v 23 (x11)), (12, .v 3 (.int .i64 n12)), (13, .v 3 (.int .i64 n13)), (19, .v 74 (x19)), (20, .v 3 (.int .i64 n20)), (21, .v 3 (.int .i64 n21))] [] g)
def lo34 : List CutI := [⟨2, [(1, .keep), (11, .keep), (12, .keep), (13, .keep)], []⟩, ⟨5, [(1, .keep), (7, .keep), (11, .keep), (12, .keep), (13, .keep), (19, .keep), (20, .keep), (21, .keep)], []⟩]
theorem w34 {x0 : Dat} {s1 : List UInt8} {g : Glob} {Qf : Out → Glob → Prop} (h0 : HasTy TT 23 x0) (h1 : s1.length ≤ 2 ^ 40)
    (h : L34_2 s1 x0 (↑(elsOf x0).length : Int) 0 g Qf) :
    EvF TT 34 [x0, .str s1] g Qf :=
  sx_fun (rk := rk) (fn := Tryz.f34) (loops := lo34) (joins := []) (n := 100000) (args := [(23, x0), (9, .str s1)]) rfl rfl rfl rfl ⟨h0, tyStr rfl h1, trivial⟩ (by kernel_rfl) h
theorem w34_2 {s1 : List UInt8} {x11 : Dat} {n12 : Int} {n13 : Int} {g : Glob} {Qf : Out → Glob → Prop} 
    (h : Br (decide (n13 < n12)) (InB n13 (elsOf x11).length ∧ L34_5 s1 n13 x11 n12 n13 (fld (getE (elsOf x11) n13) 2) (↑(elsOf (fld (getE (elsOf x11) n13) 2)).length : Int) 0 g Qf) (Qf (Out.val (Val.tuple [Val.d (Dat.int IntKind.i64 0), Val.d (Dat.int IntKind.i64 0), Val.d (Dat.bool false)])) g)) :
    L34_2 s1 x11 n12 n13 g Qf := sx_cut (rk := rk) (loops := lo34) (joins := []) (n := 100000) (by kernel_rfl) h
theorem w34_5 {s1 : List UInt8} {n7 : Int} {x11 : Dat} {n12 : Int} {n13 : Int} {x19 : Dat} {n20 : Int} {n21 : Int} {g : Glob} {Qf : Out → Glob → Prop} 
    (h : Br (decide (n21 < n20)) (InB n21 (elsOf x19).length ∧ Br (strOf (fld (getE (elsOf x19) n21) 0) == s1) (Qf (Out.val (Val.tuple [Val.d (Dat.int IntKind.i64 n7), Val.d (Dat.int IntKind.i64 n21), Val.d (Dat.bool true)])) g) (L34_5 s1 n7 x11 n12 n13 x19 n20 (IntKind.i64.wrap (n21 + 1)) g Qf)) (L34_2 s1 x11 n12 (IntKind.i64.wrap (n13 + 1)) g Qf)) :
    L34_5 s1 n7 x11 n12 n13 x19 n20 n21 g Qf := sx_cut (rk := rk) (loops := lo34) (joins := []) (n := 100000) (by kernel_rfl) h
/-! f35 athanor/athanorref14.Find -/
def L35_2 (x0 : Dat) (s1 : List UInt8) (n7 : Int) (g : Glob) (Qf : Out → Glob → Prop) : Prop := CutP TT Tryz.f35 [1, 0, 1, 0] Qf (mkC TT 35 Tryz.f35 2 [(0, .v 23 (x0)), (1, .v 9 (.str s1)), (7, .v 3 (.int .i64 n7))] [] g)
def L35_5 (x0 : Dat) (s1 : List UInt8) (n7 : Int) (n8 : Int) (g : Glob) (Qf : Out → Glob → Prop) : Prop := CutP TT Tryz.f35 [1, 0, 1, 0, 0, 1, 0, 0, 1, 0] Qf (mkC TT 35 Tryz.f35 2 [(0, .v 23 (x0)), (1, .v 9 (.str s1)), (7, .v 3 (.int .i64 n7)), (8, .v 3 (.int .i64 n8))] [] g)
def lo35 : List CutI := [⟨2, [(0, .keep), (1, .keep), (7, .keep)], []⟩, ⟨5, [(0, .keep), (1, .keep), (7, .keep), (8, .keep)], []⟩]
theorem w35 {x0 : Dat} {s1 : List UInt8} {g : Glob} {Qf : Out → Glob → Prop} (h0 : HasTy TT 23 x0) (h1 : s1.length ≤ 2 ^ 40)
    (h : L35_2 x0 s1 0 g Qf) :
    EvF TT 35 [x0, .str s1] g Qf :=
  sx_fun (rk := rk) (fn := Tryz.f35) (loops := lo35) (joins := []) (n := 100000) (args := [(23, x0), (9, .str s1)]) rfl rfl rfl rfl ⟨h0, tyStr rfl h1, trivial⟩ (by kernel_rfl) h
theorem w35_2 {x0 : Dat} {s1 : List UInt8} {n7 : Int} {g : Glob} {Qf : Out → Glob → Prop} 
    (h : Br (decide (n7 < (↑(elsOf x0).length : Int))) (L35_5 x0 s1 n7 0 g Qf) (Qf (Out.val (Val.tuple [Val.d (Dat.int IntKind.i64 0), Val.d (Dat.int IntKind.i64 0), Val.d (Dat.bool false)])) g)) :
    L35_2 x0 s1 n7 g Qf := sx_cut (rk := rk) (loops := lo35) (joins := []) (n := 100000) (by kernel_rfl) h
theorem w35_5 {x0 : Dat} {s1 : List UInt8} {n7 : Int} {n8 : Int} {g : Glob} {Qf : Out → Glob → Prop} 
    (h : InB n7 (elsOf x0).length ∧ Br (decide (n8 < (↑(elsOf (fld (getE (elsOf x0) n7) 2)).length : Int))) (InB n7 (elsOf x0).length ∧ InB n8 (elsOf (fld (getE (elsOf x0) n7) 2)).length ∧ Br (strOf (fld (getE (elsOf (fld (getE (elsOf x0) n7) 2)) n8) 0) == s1) (Qf (Out.val (Val.tuple [Val.d (Dat.int IntKind.i64 n7), Val.d (Dat.int IntKind.i64 n8), Val.d (Dat.bool true)])) g) (L35_5 x0 s1 n7 (IntKind.i64.wrap (n8 + 1)) g Qf)) (L35_2 x0 s1 (IntKind.i64.wrap (n7 + 1)) g Qf)) :
    L35_5 x0 s1 n7 n8 g Qf := sx_cut (rk := rk) (loops := lo35) (joins := []) (n := 100000) (by kernel_rfl) h
/-! f10 athanor/athanorlaw14.ScopeFinds -/
def lo10 : List CutI := []
theorem w10 {x0 : Dat} {s1 : List UInt8} {g : Glob} {Qf : Out → Glob → Prop} (h0 : HasTy TT 29 x0) (h1 : s1.length ≤ 2 ^ 40)
    (h : EvF TT 21 [x0] g fun out g' => Outc (fun x => Qf (Out.panic x) g') (fun v => ∃ b, v = Val.d (Dat.bool b) ∧ Br b (EvF TT 28 [] g' fun out g' => Outc (fun x => Qf (Out.panic x) g') (fun v => ∃ b, v = Val.d (Dat.bool b) ∧ Qf (Out.val (Val.d (Dat.bool b))) g') out) (EvF TT 23 [x0] g' fun out g' => Outc (fun x => Qf (Out.panic x) g') (fun v => ∃ x, HasTy TT 29 x ∧ v = Val.d x ∧ EvF TT 31 [x] g' fun out g' => Outc (fun x => Qf (Out.panic x) g') (fun v => ∃ x, HasTy TT 23 x ∧ RetV v x ∧ EvF TT 32 [x0] g' fun out g' => Outc (fun x => Qf (Out.panic x) g') (fun v => ∃ x_1, HasTy TT 23 x_1 ∧ RetV v x_1 ∧ EvF TT 33 [x, x_1, Dat.bool true] g' fun out g' => Outc (fun x => Qf (Out.panic x) g') (fun v => ∃ b, v = Val.d (Dat.bool b) ∧ Br (!b) (Qf (Out.val (Val.d (Dat.bool false))) g') (EvF TT 34 [x, Dat.str s1] g' fun out g' => Outc (fun x => Qf (Out.panic x) g') (fun v => ∃ n n_1 b, RetT v [Dat.int IntKind.i64 n, Dat.int IntKind.i64 n_1, Dat.bool b] ∧ EvF TT 35 [x_1, Dat.str s1] g' fun out g' => Outc (fun x => Qf (Out.panic x) g') (fun v => ∃ n_2 n_3 b_1, RetT v [Dat.int IntKind.i64 n_2, Dat.int IntKind.i64 n_3, Dat.bool b_1] ∧ EvF TT 36 [fld x0 0] g' fun out g' => Outc (fun x => Qf (Out.panic x) g') (fun v => ∃ x, HasTy TT 23 x ∧ RetV v x ∧ EvF TT 34 [x, Dat.str s1] g' fun out g' => Outc (fun x => Qf (Out.panic x) g') (fun v => ∃ n_4 n_5 b_2, RetT v [Dat.int IntKind.i64 n_4, Dat.int IntKind.i64 n_5, Dat.bool b_2] ∧ EvF TT 35 [fld x0 0, Dat.str s1] g' fun out g' => Outc (fun x => Qf (Out.panic x) g') (fun v => ∃ n_6 n_7 b_3, RetT v [Dat.int IntKind.i64 n_6, Dat.int IntKind.i64 n_7, Dat.bool b_3] ∧ Br (n == n_2) (Br (n_1 == n_3) (Br (b == b_1) (Br (n_4 == n_6) (Br (n_5 == n_7) (Br (b_2 == b_3) (EvF TT 28 [] g' fun out g' => Outc (fun x => Qf (Out.panic x) g') (fun v => ∃ b, v = Val.d (Dat.bool b) ∧ Qf (Out.val (Val.d (Dat.bool b))) g') out) (Qf (Out.val (Val.d (Dat.bool false))) g')) (Qf (Out.val (Val.d (Dat.bool false))) g')) (Qf (Out.val (Val.d (Dat.bool false))) g')) (Qf (Out.val (Val.d (Dat.bool false))) g')) (Qf (Out.val (Val.d (Dat.bool false))) g')) (Qf (Out.val (Val.d (Dat.bool false))) g')) out) out) out) out) out)) out) out) out) out)) out) :
    EvF TT 10 [x0, .str s1] g Qf :=
  sx_fun (rk := rk) (fn := Tryz.f10) (loops := lo10) (joins := []) (n := 100000) (args := [(29, x0), (9, .str s1)]) rfl rfl rfl rfl ⟨h0, tyStr rfl h1, trivial⟩ (by kernel_rfl) h
end Go.Proofs.YtgmapdcdmomioaaGreatDoor.Pa
