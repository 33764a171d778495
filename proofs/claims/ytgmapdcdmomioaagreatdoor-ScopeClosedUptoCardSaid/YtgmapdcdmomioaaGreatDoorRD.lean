/- What functions of the program do, printed by wip/tools/sx/sx.py. The document's comparisons of trees. What functions of the program do, printed by wip/tools/sx/sx.py. The document's comparison of programs; the program's own. The program's own comparison of programs. What functions of the program do, printed by wip/tools/sx/sx.py. The document's copies; what is too large. What functions of the program do, printed by wip/tools/sx/sx.py. The law ParseSame told: it answers true. -/
import Derived.Test.YtgmapdcdmomioaaGreatDoorRC
set_option linter.all false
set_option autoImplicit false
set_option maxRecDepth 100000
namespace Go.Proofs.YtgmapdcdmomioaaGreatDoor.Pa
open Go Go.Proofs.YtgmapdcdmomioaaGreatDoor.Am
end Go.Proofs.YtgmapdcdmomioaaGreatDoor.Pa
namespace Go.Proofs.YtgmapdcdmomioaaGreatDoor.Pa
open Go Go.Proofs.YtgmapdcdmomioaaGreatDoor.Am
end Go.Proofs.YtgmapdcdmomioaaGreatDoor.Pa
namespace Go.Proofs.YtgmapdcdmomioaaGreatDoor.Pa
open Go Go.Proofs.YtgmapdcdmomioaaGreatDoor.Am
end Go.Proofs.YtgmapdcdmomioaaGreatDoor.Pa
namespace Go.Proofs.YtgmapdcdmomioaaGreatDoor.Pa
open Go Go.Proofs.YtgmapdcdmomioaaGreatDoor.Am
theorem absDc_agg (s : Str) (a b : Dat) (k : IntKind) (p : Int) : abD (.agg [.str s, a, b, .int k p]) = ⟨s, (elO a).map strOf, (elO b).map aC, p⟩ := rfl
theorem len_le {x : Dat} {t u : TypeId} (hu : TT.und t = some (.slice u)) (hx : Ha TT t x) : (elO x).length ≤ 2 ^ 40 := (hx.els hu).1.1
theorem one_expr {x : Dat} (hx : Ha TT 27 x) : Ha TT 24 (.sl 7 [x]) :=
  .sl _ _ _ _ unE (by kernel_rfl) ⟨by simp, fun b hb => by
    have : TT.bytes 27 = some 104 := by kernel_rfl
    rw [this] at hb; cases hb; simp⟩ (by simpa using hx)
end Go.Proofs.YtgmapdcdmomioaaGreatDoor.Pa
namespace Go.Proofs.YtgmapdcdmomioaaGreatDoor.Pa
open Go Go.Proofs.YtgmapdcdmomioaaGreatDoor.Am
end Go.Proofs.YtgmapdcdmomioaaGreatDoor.Pa
namespace Go.Proofs.YtgmapdcdmomioaaGreatDoor.Pa
open Go Go.Proofs.YtgmapdcdmomioaaGreatDoor.Am
def L87_3 (x0 : Dat) (l3 : List Dat) (n4 : Int) (g : Glob) (Qf : OGP) : Prop := CP TT Tryz.f87 [1, 1, 0, 1, 0] Qf (mkC TT 87 Tryz.f87 1 [(0, .v 89 (x0)), (3, .acc [(23, 0)] 89 4 l3), (4, .v 3 (.int .i64 n4))] [] g)
def lo87 : List CuI := [⟨3, [(0, .keep), (3, .acc [23]), (4, .keep)], []⟩]
theorem w87 {x0 : Dat} {g : Glob} {Qf : OGP} (h0 : Ha TT 89 x0)
    (h : L87_3 x0 [] 0 g Qf) :
    EvF TT 87 [x0] g Qf :=
  su (rk := rk) (fn := Tryz.f87) (loops := lo87) (joins := []) (n := 100000) (args := [(89, x0)]) rfl rfl rfl rfl ⟨h0, trivial⟩ (by kernel_rfl) h
theorem w87_3 {x0 : Dat} {l3 : List Dat} {n4 : Int} {g : Glob} {Qf : OGP} 
    (h : Br (decide (n4 < (↑(elO x0).length : Int))) (InB n4 (elO x0).length ∧ EvF TT 87 [fld (gtE (elO x0) n4) 3] g (KQ Qf fun v g' => ∃ x, Ha TT 89 x ∧ Rt v x ∧ Fits (l3.length + [Dat.agg [.int .i64 (intOf (fld (gtE (elO x0) n4) 0)), .str (strOf (fld (gtE (elO x0) n4) 1)), .int .i64 (intOf (fld (gtE (elO x0) n4) 2)), x]].length) 56 ∧ L87_3 x0 (l3 ++ [Dat.agg [.int .i64 (intOf (fld (gtE (elO x0) n4) 0)), .str (strOf (fld (gtE (elO x0) n4) 1)), .int .i64 (intOf (fld (gtE (elO x0) n4) 2)), x]]) (IntKind.i64.wrap (n4 + 1)) g' Qf)) (Qf (.val (retOf 4 l3)) g)) :
    L87_3 x0 l3 n4 g Qf := sxc (rk := rk) (loops := lo87) (joins := []) (n := 100000) (by kernel_rfl) h
def L93_3 (x0 : Dat) (l3 : List Dat) (n4 : Int) (g : Glob) (Qf : OGP) : Prop := CP TT Tryz.f93 [1, 1, 0, 1, 0] Qf (mkC TT 93 Tryz.f93 1 [(0, .v 25 (x0)), (3, .acc [(23, 0)] 25 5 l3), (4, .v 3 (.int .i64 n4))] [] g)
def lo93 : List CuI := [⟨3, [(0, .keep), (3, .acc [23]), (4, .keep)], []⟩]
theorem w93 {x0 : Dat} {g : Glob} {Qf : OGP} (h0 : Ha TT 25 x0)
    (h : L93_3 x0 [] 0 g Qf) :
    EvF TT 93 [x0] g Qf :=
  su (rk := rk) (fn := Tryz.f93) (loops := lo93) (joins := []) (n := 100000) (args := [(25, x0)]) rfl rfl rfl rfl ⟨h0, trivial⟩ (by kernel_rfl) h
theorem w93_3 {x0 : Dat} {l3 : List Dat} {n4 : Int} {g : Glob} {Qf : OGP} 
    (h : Br (decide (n4 < (↑(elO x0).length : Int))) (InB n4 (elO x0).length ∧ EvF TT 93 [fld (gtE (elO x0) n4) 3] g (KQ Qf fun v g' => ∃ x, Ha TT 25 x ∧ Rt v x ∧ Fits (l3.length + [Dat.agg [.int .i64 (intOf (fld (gtE (elO x0) n4) 0)), .str (strOf (fld (gtE (elO x0) n4) 1)), .int .i64 (intOf (fld (gtE (elO x0) n4) 2)), x, .int .i64 (intOf (fld (gtE (elO x0) n4) 4))]].length) 64 ∧ L93_3 x0 (l3 ++ [Dat.agg [.int .i64 (intOf (fld (gtE (elO x0) n4) 0)), .str (strOf (fld (gtE (elO x0) n4) 1)), .int .i64 (intOf (fld (gtE (elO x0) n4) 2)), x, .int .i64 (intOf (fld (gtE (elO x0) n4) 4))]]) (IntKind.i64.wrap (n4 + 1)) g' Qf)) (Qf (.val (retOf 5 l3)) g)) :
    L93_3 x0 l3 n4 g Qf := sxc (rk := rk) (loops := lo93) (joins := []) (n := 100000) (by kernel_rfl) h
def L41_3 (x0 : Dat) (l3 : List Dat) (n4 : Int) (g : Glob) (Qf : OGP) : Prop := CP TT Tryz.f41 [1, 1, 0, 1, 0] Qf (mkC TT 41 Tryz.f41 1 [(0, .v 24 (x0)), (3, .acc [(27, 0)] 24 7 l3), (4, .v 3 (.int .i64 n4))] [] g)
def lo41 : List CuI := [⟨3, [(0, .keep), (3, .acc [27]), (4, .keep)], []⟩]
theorem w41 {x0 : Dat} {g : Glob} {Qf : OGP} (h0 : Ha TT 24 x0)
    (h : L41_3 x0 [] 0 g Qf) :
    EvF TT 41 [x0] g Qf :=
  su (rk := rk) (fn := Tryz.f41) (loops := lo41) (joins := []) (n := 100000) (args := [(24, x0)]) rfl rfl rfl rfl ⟨h0, trivial⟩ (by kernel_rfl) h
theorem w41_3 {x0 : Dat} {l3 : List Dat} {n4 : Int} {g : Glob} {Qf : OGP} 
    (h : Br (decide (n4 < (↑(elO x0).length : Int))) (InB n4 (elO x0).length ∧ EvF TT 41 [fld (gtE (elO x0) n4) 4] g (KQ Qf fun v g' => ∃ x, Ha TT 24 x ∧ Rt v x ∧ EvF TT 93 [fld (gtE (elO x0) n4) 5] g' (KQ Qf fun v g' => ∃ x_1, Ha TT 25 x_1 ∧ Rt v x_1 ∧ Fits (l3.length + [Dat.agg [.int .i64 (intOf (fld (gtE (elO x0) n4) 0)), .str (strOf (fld (gtE (elO x0) n4) 1)), .str (strOf (fld (gtE (elO x0) n4) 2)), .int .i64 (intOf (fld (gtE (elO x0) n4) 3)), x, x_1, .int .i64 (intOf (fld (gtE (elO x0) n4) 6))]].length) 104 ∧ L41_3 x0 (l3 ++ [Dat.agg [.int .i64 (intOf (fld (gtE (elO x0) n4) 0)), .str (strOf (fld (gtE (elO x0) n4) 1)), .str (strOf (fld (gtE (elO x0) n4) 2)), .int .i64 (intOf (fld (gtE (elO x0) n4) 3)), x, x_1, .int .i64 (intOf (fld (gtE (elO x0) n4) 6))]]) (IntKind.i64.wrap (n4 + 1)) g' Qf))) (Qf (.val (retOf 7 l3)) g)) :
    L41_3 x0 l3 n4 g Qf := sxc (rk := rk) (loops := lo41) (joins := []) (n := 100000) (by kernel_rfl) h
def L36_3 (x0 : Dat) (l3 : List Dat) (n4 : Int) (g : Glob) (Qf : OGP) : Prop := CP TT Tryz.f36 [1, 1, 0, 1, 0] Qf (mkC TT 36 Tryz.f36 1 [(0, .v 23 (x0)), (3, .acc [(52, 0)] 23 4 l3), (4, .v 3 (.int .i64 n4))] [] g)
def L36_9 (x0 : Dat) (l3 : List Dat) (n4 : Int) (l6 : List Dat) (n7 : Int) (y5 : Dat) (g : Glob) (Qf : OGP) : Prop := CP TT Tryz.f36 [1, 1, 0, 1, 0, 0, 1, 0, 0, 1, 1, 1, 0, 1, 0] Qf (mkC TT 36 Tryz.f36 1 [(0, .v 23 (x0)), (3, .acc [(52, 0)] 23 4 l3), (4, .v 3 (.int .i64 n4)), (5, .loc 5 0 0), (6, .acc [(46, 0)] 74 2 l6), (7, .v 3 (.int .i64 n7))] [(5, .whole 76 y5)] g)
def lo36 : List CuI := [⟨3, [(0, .keep), (3, .acc [52]), (4, .keep)], []⟩, ⟨9, [(0, .keep), (3, .acc [52]), (4, .keep), (5, .keep), (6, .acc [46]), (7, .keep)], [(5, .whole 76)]⟩]
theorem w36 {x0 : Dat} {g : Glob} {Qf : OGP} (h0 : Ha TT 23 x0)
    (h : L36_3 x0 [] 0 g Qf) :
    EvF TT 36 [x0] g Qf :=
  su (rk := rk) (fn := Tryz.f36) (loops := lo36) (joins := []) (n := 100000) (args := [(23, x0)]) rfl rfl rfl rfl ⟨h0, trivial⟩ (by kernel_rfl) h
theorem w36_3 {x0 : Dat} {l3 : List Dat} {n4 : Int} {g : Glob} {Qf : OGP} 
    (h : Br (decide (n4 < (↑(elO x0).length : Int))) (InB n4 (elO x0).length ∧ Fits (0 + (elO (fld (gtE (elO x0) n4) 1)).length) 16 ∧ L36_9 x0 l3 n4 [] 0 (.agg [.str (strOf (fld (gtE (elO x0) n4) 0)), .sl 1 ([] ++ elO (fld (gtE (elO x0) n4) 1)), fld (gtE (elO x0) n4) 2, .int .i64 (intOf (fld (gtE (elO x0) n4) 3))]) g Qf) (Qf (.val (retOf 4 l3)) g)) :
    L36_3 x0 l3 n4 g Qf := sxc (rk := rk) (loops := lo36) (joins := []) (n := 100000) (by kernel_rfl) h
theorem w36_9 {x0 : Dat} {l3 : List Dat} {n4 : Int} {l6 : List Dat} {n7 : Int} {y5 : Dat} {g : Glob} {Qf : OGP} 
    (h : Br (decide (n7 < (↑(elO (fld y5 2)).length : Int))) (InB n7 (elO (fld y5 2)).length ∧ InB n7 (elO (fld y5 2)).length ∧ EvF TT 87 [fld (gtE (elO (fld y5 2)) n7) 1] g (KQ Qf fun v g' => ∃ x, Ha TT 89 x ∧ Rt v x ∧ Fits (l6.length + [Dat.agg [.str (strOf (fld (gtE (elO (fld y5 2)) n7) 0)), x]].length) 40 ∧ L36_9 x0 l3 n4 (l6 ++ [Dat.agg [.str (strOf (fld (gtE (elO (fld y5 2)) n7) 0)), x]]) (IntKind.i64.wrap (n7 + 1)) y5 g' Qf)) (Fits (l3.length + [Dat.agg [.str (strOf (fld y5 0)), fld y5 1, sOf 2 l6, .int .i64 (intOf (fld y5 3))]].length) 72 ∧ L36_3 x0 (l3 ++ [Dat.agg [.str (strOf (fld y5 0)), fld y5 1, sOf 2 l6, .int .i64 (intOf (fld y5 3))]]) (IntKind.i64.wrap (n4 + 1)) g Qf)) :
    L36_9 x0 l3 n4 l6 n7 y5 g Qf := sxc (rk := rk) (loops := lo36) (joins := []) (n := 100000) (by kernel_rfl) h
def lo23 : List CuI := []
theorem w23 {x0 : Dat} {g : Glob} {Qf : OGP} (h0 : Ha TT 29 x0)
    (h : EvF TT 36 [fld x0 0] g (KQ Qf fun v g' => ∃ x, Ha TT 23 x ∧ Rt v x ∧ EvF TT 41 [.sl 7 [sub x0 1 7]] g' (KQ Qf fun v g' => ∃ x_1, Ha TT 24 x_1 ∧ Rt v x_1 ∧ InB 0 (elO x_1).length ∧ Qf (.val (.d (.agg [x, .int .i64 (intOf (.int .i64 (intOf (fld (gtE (elO x_1) 0) 0)))), .str (strOf (.str (strOf (fld (gtE (elO x_1) 0) 1)))), .str (strOf (.str (strOf (fld (gtE (elO x_1) 0) 2)))), .int .i64 (intOf (.int .i64 (intOf (fld (gtE (elO x_1) 0) 3)))), fld (.agg [x, .int .i64 (intOf (fld (gtE (elO x_1) 0) 0)), .str (strOf (fld (gtE (elO x_1) 0) 1)), .str (strOf (fld (gtE (elO x_1) 0) 2)), .int .i64 (intOf (fld (gtE (elO x_1) 0) 3)), fld (gtE (elO x_1) 0) 4, fld (gtE (elO x_1) 0) 5, .int .i64 (intOf (fld (gtE (elO x_1) 0) 6))]) 5, fld (.agg [x, .int .i64 (intOf (fld (gtE (elO x_1) 0) 0)), .str (strOf (fld (gtE (elO x_1) 0) 1)), .str (strOf (fld (gtE (elO x_1) 0) 2)), .int .i64 (intOf (fld (gtE (elO x_1) 0) 3)), fld (gtE (elO x_1) 0) 4, fld (gtE (elO x_1) 0) 5, .int .i64 (intOf (fld (gtE (elO x_1) 0) 6))]) 6, .int .i64 (intOf (.int .i64 (intOf (fld (gtE (elO x_1) 0) 6))))]))) g'))) :
    EvF TT 23 [x0] g Qf :=
  su (rk := rk) (fn := Tryz.f23) (loops := lo23) (joins := []) (n := 100000) (args := [(29, x0)]) rfl rfl rfl rfl ⟨h0, trivial⟩ (by kernel_rfl) h
def L125_5 (n1 : Int) (n2 : Int) (n7 : Int) (y3 : Dat) (g : Glob) (Qf : OGP) : Prop := CP TT Tryz.f125 [1, 1, 1, 0, 1, 0] Qf (mkC TT 125 Tryz.f125 3 [(1, .v 3 (.int .i64 n1)), (2, .v 3 (.int .i64 n2)), (3, .loc 3 0 0), (7, .v 3 (.int .i64 n7))] [(3, .whole 94 y3)] g)
def lo125 : List CuI := [⟨5, [(1, .keep), (2, .keep), (3, .keep), (7, .keep)], [(3, .whole 94)]⟩]
theorem w125 {x0 : Dat} {n1 : Int} {n2 : Int} {g : Glob} {Qf : OGP} (h0 : Ha TT 94 x0)
    (h : NeZ 10 ∧ Br (decide (20000 < IntKind.i64.wrap (n2 + IntKind.i64.wrap (1 + IntKind.i64.wrap ((↑(elO (fld x0 3)).length : Int).tdiv 10))))) (Qf (.val (.d (.int .i64 (-1)))) g) (Br (decide (600 < n1)) (Qf (.val (.d (.int .i64 (-1)))) g) (L125_5 n1 (IntKind.i64.wrap (n2 + IntKind.i64.wrap (1 + IntKind.i64.wrap ((↑(elO (fld x0 3)).length : Int).tdiv 10)))) 0 x0 g Qf))) :
    EvF TT 125 [x0, .int .i64 n1, .int .i64 n2] g Qf :=
  su (rk := rk) (fn := Tryz.f125) (loops := lo125) (joins := []) (n := 100000) (args := [(94, x0), (3, .int .i64 n1), (3, .int .i64 n2)]) rfl rfl rfl rfl ⟨h0, tyI rfl, tyI rfl, trivial⟩ (by kernel_rfl) h
theorem w125_5 {n1 : Int} {n2 : Int} {n7 : Int} {y3 : Dat} {g : Glob} {Qf : OGP} 
    (h : Br (decide (n7 < (↑(elO (fld y3 3)).length : Int))) (Br (decide (0 ≤ n2)) (InB n7 (elO (fld y3 3)).length ∧ EvF TT 125 [gtE (elO (fld y3 3)) n7, .int .i64 (IntKind.i64.wrap (n1 + 1)), .int .i64 n2] g (KQ Qf fun v g' => ∃ n, v = .d (.int .i64 n) ∧ L125_5 n1 n (IntKind.i64.wrap (n7 + 1)) y3 g' Qf)) (Qf (.val (.d (.int .i64 n2))) g)) (Qf (.val (.d (.int .i64 n2))) g)) :
    L125_5 n1 n2 n7 y3 g Qf := sxc (rk := rk) (loops := lo125) (joins := []) (n := 100000) (by kernel_rfl) h
def L159_5 (n1 : Int) (n2 : Int) (n7 : Int) (y3 : Dat) (g : Glob) (Qf : OGP) : Prop := CP TT Tryz.f159 [1, 1, 1, 0, 1, 0] Qf (mkC TT 159 Tryz.f159 3 [(1, .v 3 (.int .i64 n1)), (2, .v 3 (.int .i64 n2)), (3, .loc 3 0 0), (7, .v 3 (.int .i64 n7))] [(3, .whole 127 y3)] g)
def lo159 : List CuI := [⟨5, [(1, .keep), (2, .keep), (3, .keep), (7, .keep)], [(3, .whole 127)]⟩]
theorem w159 {x0 : Dat} {n1 : Int} {n2 : Int} {g : Glob} {Qf : OGP} (h0 : Ha TT 127 x0)
    (h : NeZ 10 ∧ Br (decide (20000 < IntKind.i64.wrap (n2 + IntKind.i64.wrap (1 + IntKind.i64.wrap ((↑(elO (fld x0 3)).length : Int).tdiv 10))))) (Qf (.val (.d (.int .i64 (-1)))) g) (Br (decide (600 < n1)) (Qf (.val (.d (.int .i64 (-1)))) g) (L159_5 n1 (IntKind.i64.wrap (n2 + IntKind.i64.wrap (1 + IntKind.i64.wrap ((↑(elO (fld x0 3)).length : Int).tdiv 10)))) 0 x0 g Qf))) :
    EvF TT 159 [x0, .int .i64 n1, .int .i64 n2] g Qf :=
  su (rk := rk) (fn := Tryz.f159) (loops := lo159) (joins := []) (n := 100000) (args := [(127, x0), (3, .int .i64 n1), (3, .int .i64 n2)]) rfl rfl rfl rfl ⟨h0, tyI rfl, tyI rfl, trivial⟩ (by kernel_rfl) h
theorem w159_5 {n1 : Int} {n2 : Int} {n7 : Int} {y3 : Dat} {g : Glob} {Qf : OGP} 
    (h : Br (decide (n7 < (↑(elO (fld y3 3)).length : Int))) (Br (decide (0 ≤ n2)) (InB n7 (elO (fld y3 3)).length ∧ EvF TT 159 [gtE (elO (fld y3 3)) n7, .int .i64 (IntKind.i64.wrap (n1 + 1)), .int .i64 n2] g (KQ Qf fun v g' => ∃ n, v = .d (.int .i64 n) ∧ L159_5 n1 n (IntKind.i64.wrap (n7 + 1)) y3 g' Qf)) (Qf (.val (.d (.int .i64 n2))) g)) (Qf (.val (.d (.int .i64 n2))) g)) :
    L159_5 n1 n2 n7 y3 g Qf := sxc (rk := rk) (loops := lo159) (joins := []) (n := 100000) (by kernel_rfl) h
def L88_5 (n1 : Int) (n2 : Int) (n7 : Int) (y3 : Dat) (g : Glob) (Qf : OGP) : Prop := CP TT Tryz.f88 [1, 1, 1, 0, 1, 0] Qf (mkC TT 88 Tryz.f88 3 [(1, .v 3 (.int .i64 n1)), (2, .v 3 (.int .i64 n2)), (3, .loc 3 0 0), (7, .v 3 (.int .i64 n7))] [(3, .whole 27 y3)] g)
def L88_9 (n1 : Int) (n2 : Int) (n8 : Int) (y3 : Dat) (g : Glob) (Qf : OGP) : Prop := CP TT Tryz.f88 [1, 1, 1, 1, 0, 1, 0] Qf (mkC TT 88 Tryz.f88 3 [(1, .v 3 (.int .i64 n1)), (2, .v 3 (.int .i64 n2)), (3, .loc 3 0 0), (8, .v 3 (.int .i64 n8))] [(3, .whole 27 y3)] g)
def lo88 : List CuI := [⟨5, [(1, .keep), (2, .keep), (3, .keep), (7, .keep)], [(3, .whole 27)]⟩, ⟨9, [(1, .keep), (2, .keep), (3, .keep), (8, .keep)], [(3, .whole 27)]⟩]
theorem w88 {x0 : Dat} {n1 : Int} {n2 : Int} {g : Glob} {Qf : OGP} (h0 : Ha TT 27 x0)
    (h : NeZ 10 ∧ NeZ 10 ∧ Br (decide (20000 < IntKind.i64.wrap (n2 + IntKind.i64.wrap (IntKind.i64.wrap (1 + IntKind.i64.wrap ((↑(elO (fld x0 4)).length : Int).tdiv 10)) + IntKind.i64.wrap ((↑(elO (fld x0 5)).length : Int).tdiv 10))))) (Qf (.val (.d (.int .i64 (-1)))) g) (Br (decide (600 < n1)) (Qf (.val (.d (.int .i64 (-1)))) g) (L88_5 n1 (IntKind.i64.wrap (n2 + IntKind.i64.wrap (IntKind.i64.wrap (1 + IntKind.i64.wrap ((↑(elO (fld x0 4)).length : Int).tdiv 10)) + IntKind.i64.wrap ((↑(elO (fld x0 5)).length : Int).tdiv 10)))) 0 x0 g Qf))) :
    EvF TT 88 [x0, .int .i64 n1, .int .i64 n2] g Qf :=
  su (rk := rk) (fn := Tryz.f88) (loops := lo88) (joins := []) (n := 100000) (args := [(27, x0), (3, .int .i64 n1), (3, .int .i64 n2)]) rfl rfl rfl rfl ⟨h0, tyI rfl, tyI rfl, trivial⟩ (by kernel_rfl) h
theorem w88_5 {n1 : Int} {n2 : Int} {n7 : Int} {y3 : Dat} {g : Glob} {Qf : OGP} 
    (h : Br (decide (n7 < (↑(elO (fld y3 5)).length : Int))) (Br (decide (0 ≤ n2)) (InB n7 (elO (fld y3 5)).length ∧ EvF TT 159 [gtE (elO (fld y3 5)) n7, .int .i64 (IntKind.i64.wrap (n1 + 1)), .int .i64 n2] g (KQ Qf fun v g' => ∃ n, v = .d (.int .i64 n) ∧ L88_5 n1 n (IntKind.i64.wrap (n7 + 1)) y3 g' Qf)) (L88_9 n1 n2 0 y3 g Qf)) (L88_9 n1 n2 0 y3 g Qf)) :
    L88_5 n1 n2 n7 y3 g Qf := sxc (rk := rk) (loops := lo88) (joins := []) (n := 100000) (by kernel_rfl) h
theorem w88_9 {n1 : Int} {n2 : Int} {n8 : Int} {y3 : Dat} {g : Glob} {Qf : OGP} 
    (h : Br (decide (n8 < (↑(elO (fld y3 4)).length : Int))) (Br (decide (0 ≤ n2)) (InB n8 (elO (fld y3 4)).length ∧ EvF TT 88 [gtE (elO (fld y3 4)) n8, .int .i64 (IntKind.i64.wrap (n1 + 1)), .int .i64 n2] g (KQ Qf fun v g' => ∃ n, v = .d (.int .i64 n) ∧ L88_9 n1 n (IntKind.i64.wrap (n8 + 1)) y3 g' Qf)) (Qf (.val (.d (.int .i64 n2))) g)) (Qf (.val (.d (.int .i64 n2))) g)) :
    L88_9 n1 n2 n8 y3 g Qf := sxc (rk := rk) (loops := lo88) (joins := []) (n := 100000) (by kernel_rfl) h
def L58_5 (x0 : Dat) (n3 : Int) (n4 : Int) (g : Glob) (Qf : OGP) : Prop := CP TT Tryz.f58 [1, 1, 1, 0, 1, 0] Qf (mkC TT 58 Tryz.f58 1 [(0, .v 23 (x0)), (3, .v 3 (.int .i64 n3)), (4, .v 3 (.int .i64 n4))] [] g)
def L58_10 (x0 : Dat) (n3 : Int) (n4 : Int) (n5 : Int) (g : Glob) (Qf : OGP) : Prop := CP TT Tryz.f58 [1, 1, 1, 0, 1, 0, 0, 1, 0, 0, 1, 1, 0] Qf (mkC TT 58 Tryz.f58 1 [(0, .v 23 (x0)), (3, .v 3 (.int .i64 n3)), (4, .v 3 (.int .i64 n4)), (5, .v 3 (.int .i64 n5))] [] g)
def L58_15 (x0 : Dat) (n3 : Int) (n4 : Int) (n5 : Int) (n6 : Int) (g : Glob) (Qf : OGP) : Prop := CP TT Tryz.f58 [1, 1, 1, 0, 1, 0, 0, 1, 0, 0, 1, 1, 0, 0, 1, 0, 0, 1, 0, 1, 0] Qf (mkC TT 58 Tryz.f58 1 [(0, .v 23 (x0)), (3, .v 3 (.int .i64 n3)), (4, .v 3 (.int .i64 n4)), (5, .v 3 (.int .i64 n5)), (6, .v 3 (.int .i64 n6))] [] g)
def lo58 : List CuI := [⟨5, [(0, .keep), (3, .keep), (4, .keep)], []⟩, ⟨10, [(0, .keep), (3, .keep), (4, .keep), (5, .keep)], []⟩, ⟨15, [(0, .keep), (3, .keep), (4, .keep), (5, .keep), (6, .keep)], []⟩]
theorem w58 {x0 : Dat} {g : Glob} {Qf : OGP} (h0 : Ha TT 23 x0)
    (h : Br (decide (200 < (↑(elO x0).length : Int))) (Qf (.val (.d (.bool true))) g) (L58_5 x0 0 0 g Qf)) :
    EvF TT 58 [x0] g Qf :=
  su (rk := rk) (fn := Tryz.f58) (loops := lo58) (joins := []) (n := 100000) (args := [(23, x0)]) rfl rfl rfl rfl ⟨h0, trivial⟩ (by kernel_rfl) h
theorem w58_5 {x0 : Dat} {n3 : Int} {n4 : Int} {g : Glob} {Qf : OGP} 
    (h : Br (decide (n4 < (↑(elO x0).length : Int))) (InB n4 (elO x0).length ∧ Br (decide (200 < (↑(elO (fld (gtE (elO x0) n4) 2)).length : Int))) (Qf (.val (.d (.bool true))) g) (InB n4 (elO x0).length ∧ Br (decide (200 < (↑(elO (fld (gtE (elO x0) n4) 1)).length : Int))) (Qf (.val (.d (.bool true))) g) (L58_10 x0 n3 n4 0 g Qf))) (Qf (.val (.d (.bool false))) g)) :
    L58_5 x0 n3 n4 g Qf := sxc (rk := rk) (loops := lo58) (joins := []) (n := 100000) (by kernel_rfl) h
theorem w58_10 {x0 : Dat} {n3 : Int} {n4 : Int} {n5 : Int} {g : Glob} {Qf : OGP} 
    (h : InB n4 (elO x0).length ∧ Br (decide (n5 < (↑(elO (fld (gtE (elO x0) n4) 2)).length : Int))) (InB n4 (elO x0).length ∧ InB n5 (elO (fld (gtE (elO x0) n4) 2)).length ∧ Br (decide (200 < (↑(elO (fld (gtE (elO (fld (gtE (elO x0) n4) 2)) n5) 1)).length : Int))) (Qf (.val (.d (.bool true))) g) (L58_15 x0 n3 n4 n5 0 g Qf)) (L58_5 x0 n3 (IntKind.i64.wrap (n4 + 1)) g Qf)) :
    L58_10 x0 n3 n4 n5 g Qf := sxc (rk := rk) (loops := lo58) (joins := []) (n := 100000) (by kernel_rfl) h
theorem w58_15 {x0 : Dat} {n3 : Int} {n4 : Int} {n5 : Int} {n6 : Int} {g : Glob} {Qf : OGP} 
    (h : InB n4 (elO x0).length ∧ InB n5 (elO (fld (gtE (elO x0) n4) 2)).length ∧ Br (decide (n6 < (↑(elO (fld (gtE (elO (fld (gtE (elO x0) n4) 2)) n5) 1)).length : Int))) (Br (decide (0 ≤ n3)) (InB n4 (elO x0).length ∧ InB n5 (elO (fld (gtE (elO x0) n4) 2)).length ∧ InB n6 (elO (fld (gtE (elO (fld (gtE (elO x0) n4) 2)) n5) 1)).length ∧ EvF TT 125 [gtE (elO (fld (gtE (elO (fld (gtE (elO x0) n4) 2)) n5) 1)) n6, .int .i64 0, .int .i64 n3] g (KQ Qf fun v g' => ∃ n, v = .d (.int .i64 n) ∧ L58_15 x0 n n4 n5 (IntKind.i64.wrap (n6 + 1)) g' Qf)) (Br (decide (n3 < 0)) (Qf (.val (.d (.bool true))) g) (L58_10 x0 n3 n4 (IntKind.i64.wrap (n5 + 1)) g Qf))) (Br (decide (n3 < 0)) (Qf (.val (.d (.bool true))) g) (L58_10 x0 n3 n4 (IntKind.i64.wrap (n5 + 1)) g Qf))) :
    L58_15 x0 n3 n4 n5 n6 g Qf := sxc (rk := rk) (loops := lo58) (joins := []) (n := 100000) (by kernel_rfl) h
def lo37 : List CuI := []
theorem w37 {x0 : Dat} {g : Glob} {Qf : OGP} (h0 : Ha TT 27 x0)
    (h : EvF TT 88 [x0, .int .i64 0, .int .i64 0] g (KQ Qf fun v g' => ∃ n, v = .d (.int .i64 n) ∧ Qf (.val (.d (.bool (decide (n < 0))))) g')) :
    EvF TT 37 [x0] g Qf :=
  su (rk := rk) (fn := Tryz.f37) (loops := lo37) (joins := []) (n := 100000) (args := [(27, x0)]) rfl rfl rfl rfl ⟨h0, trivial⟩ (by kernel_rfl) h
def lo21 : List CuI := []
theorem w21 {x0 : Dat} {g : Glob} {Qf : OGP} (h0 : Ha TT 29 x0)
    (h : EvF TT 58 [fld x0 0] g (KQ Qf fun v g' => ∃ b, v = .d (.bool b) ∧ Br b (Qf (.val (.d (.bool true))) g') (EvF TT 37 [sub x0 1 7] g' (KQ Qf fun v g' => ∃ b, v = .d (.bool b) ∧ Qf (.val (.d (.bool b))) g')))) :
    EvF TT 21 [x0] g Qf :=
  su (rk := rk) (fn := Tryz.f21) (loops := lo21) (joins := []) (n := 100000) (args := [(29, x0)]) rfl rfl rfl rfl ⟨h0, trivial⟩ (by kernel_rfl) h
end Go.Proofs.YtgmapdcdmomioaaGreatDoor.Pa
namespace Go.Proofs.YtgmapdcdmomioaaGreatDoor.Pa
open Go Go.Proofs.YtgmapdcdmomioaaGreatDoor.Am
theorem rf (m : Nat) (l : List Dat) : Rt (retOf m l) (sOf m l) := by cases l <;> rfl
theorem byType : TT.bytes 94 = some 56 := by kernel_rfl
theorem byPat : TT.bytes 127 = some 64 := by kernel_rfl
theorem byExpr : TT.bytes 27 = some 104 := by kernel_rfl
theorem byCon : TT.bytes 91 = some 40 := by kernel_rfl
theorem byDecl : TT.bytes 76 = some 72 := by kernel_rfl
theorem byStr : TT.bytes 9 = some 16 := by kernel_rfl
theorem szType : TT.size 94 = some 4 := by kernel_rfl
theorem szPat : TT.size 127 = some 5 := by kernel_rfl
theorem szExpr : TT.size 27 = some 7 := by kernel_rfl
theorem szCon : TT.size 91 = some 2 := by kernel_rfl
theorem szDecl : TT.size 76 = some 4 := by kernel_rfl
theorem szStr : TT.size 9 = some 1 := by kernel_rfl
theorem take_snoc {α β : Type} {f : α → β} {xs : List α} {ys : List α} {i : Nat} {y : α} (hi : i < xs.length) (h : ys.map f = (xs.take i).map f) (hy : f y = f xs[i]) : (ys ++ [y]).map f = (xs.take (i + 1)).map f := by
  rw [List.map_append, h, List.take_succ_eq_append_getElem hi, List.map_append, List.map_singleton, List.map_singleton, hy]
theorem copyTypes_ok : ∀ (k : Nat) (x : Dat) (g : Glob), SizeOf.sizeOf x < k → Ha TT 89 x → ∀ (Qf : OGP), (∀ l : List Dat, (∀ y ∈ l, Ha TT 94 y) → l.length = (elO x).length → l.map aT = (elO x).map aT → Qf (.val (retOf 4 l)) g) → EvF TT 87 [x] g Qf
  | 0, x, g, hk, _ => by omega
  | k + 1, x, g, hk, hx => by
    intro Qf hQ
    have ex := hx.els uT
    have exl := ex.1.1
    refine w87 hx ?_
    refine lU (len := (elO x).length) (fun i => ∀ l : List Dat, l.length = i → (∀ y ∈ l, Ha TT 94 y) → l.map aT = ((elO x).take i).map aT → L87_3 x l (i : Int) g Qf) ?_ ?_ 0 (Nat.zero_le _) [] rfl (fun y h => by cases h) rfl
    · intro l h1 h2 h3
      refine w87_3 ?_
      rw [Bg]
      rw [List.take_length] at h3
      exact hQ l h2 h1 h3
    · intro i hi ih l h1 h2 h3
      refine w87_3 ?_
      rw [Bl hi, geE hi]
      have hsz := siz hi
      obtain ⟨k1, s1, n1, a1, e1, hs1, t1⟩ := type_ty (ex.2 _ (List.getElem_mem hi))
      have hab : aT (elO x)[i] = .mk k1 s1 n1 (abT a1) := by rw [e1]; rfl
      rw [e1] at hsz ⊢
      have hc := sO (cs := [.int .i64 k1, .str s1, .int .i64 n1, a1]) (c := a1) (by simp)
      refine ⟨inB hi, copyTypes_ok k a1 g (by omega) t1 _ fun l' hl' hn' ha' => ?_⟩
      have ta : Ha TT 89 (sOf 4 l') := slf uT szType (by rw [hn']; exact (t1.els uT).1) hl'
      refine ⟨sOf 4 l', ta, rf _ _, (ex.1.le (by simp; omega)).fits byType, ?_⟩
      rw [wra (by omega)]
      refine ih _ (by simp [h1]) (fun y hy => ?_) (take_snoc hi h3 ?_)
      · rcases List.mem_append.1 hy with hy | hy
        · exact h2 y hy
        · simp only [List.mem_singleton] at hy; subst hy; exact ty_type hs1 ta
      · rw [hab]
        show Ty.mk k1 s1 n1 (abT (sOf 4 l')) = _
        rw [ay, slO, ha', ← ay]
theorem copyPats_ok : ∀ (k : Nat) (x : Dat) (g : Glob), SizeOf.sizeOf x < k → Ha TT 25 x → ∀ (Qf : OGP), (∀ l : List Dat, (∀ y ∈ l, Ha TT 127 y) → l.length = (elO x).length → l.map aP = (elO x).map aP → Qf (.val (retOf 5 l)) g) → EvF TT 93 [x] g Qf
  | 0, x, g, hk, _ => by omega
  | k + 1, x, g, hk, hx => by
    intro Qf hQ
    have ex := hx.els uP
    have exl := ex.1.1
    refine w93 hx ?_
    refine lU (len := (elO x).length) (fun i => ∀ l : List Dat, l.length = i → (∀ y ∈ l, Ha TT 127 y) → l.map aP = ((elO x).take i).map aP → L93_3 x l (i : Int) g Qf) ?_ ?_ 0 (Nat.zero_le _) [] rfl (fun y h => by cases h) rfl
    · intro l h1 h2 h3
      refine w93_3 ?_
      rw [Bg]
      rw [List.take_length] at h3
      exact hQ l h2 h1 h3
    · intro i hi ih l h1 h2 h3
      refine w93_3 ?_
      rw [Bl hi, geE hi]
      have hsz := siz hi
      obtain ⟨k1, s1, n1, a1, p1, e1, hs1, t1⟩ := pat_ty (ex.2 _ (List.getElem_mem hi))
      have hab : aP (elO x)[i] = .mk k1 s1 n1 (abt a1) p1 := by rw [e1]; rfl
      rw [e1] at hsz ⊢
      have hc := sO (cs := [.int .i64 k1, .str s1, .int .i64 n1, a1, .int .i64 p1]) (c := a1) (by simp)
      refine ⟨inB hi, copyPats_ok k a1 g (by omega) t1 _ fun l' hl' hn' ha' => ?_⟩
      have ta : Ha TT 25 (sOf 5 l') := slf uP szPat (by rw [hn']; exact (t1.els uP).1) hl'
      refine ⟨sOf 5 l', ta, rf _ _, (ex.1.le (by simp; omega)).fits byPat, ?_⟩
      rw [wra (by omega)]
      refine ih _ (by simp [h1]) (fun y hy => ?_) (take_snoc hi h3 ?_)
      · rcases List.mem_append.1 hy with hy | hy
        · exact h2 y hy
        · simp only [List.mem_singleton] at hy; subst hy; exact ty_pat hs1 ta
      · rw [hab]
        show Pt.mk k1 s1 n1 (abt (sOf 5 l')) p1 = _
        rw [aA, slO, ha', ← aA]
theorem copyExprs_ok : ∀ (k : Nat) (x : Dat) (g : Glob), SizeOf.sizeOf x < k → Ha TT 24 x → ∀ (Qf : OGP), (∀ l : List Dat, (∀ y ∈ l, Ha TT 27 y) → l.length = (elO x).length → l.map ax = (elO x).map ax → Qf (.val (retOf 7 l)) g) → EvF TT 41 [x] g Qf
  | 0, x, g, hk, _ => by omega
  | k + 1, x, g, hk, hx => by
    intro Qf hQ
    have ex := hx.els unE
    have exl := ex.1.1
    refine w41 hx ?_
    refine lU (len := (elO x).length) (fun i => ∀ l : List Dat, l.length = i → (∀ y ∈ l, Ha TT 27 y) → l.map ax = ((elO x).take i).map ax → L41_3 x l (i : Int) g Qf) ?_ ?_ 0 (Nat.zero_le _) [] rfl (fun y h => by cases h) rfl
    · intro l h1 h2 h3
      refine w41_3 ?_
      rw [Bg]
      rw [List.take_length] at h3
      exact hQ l h2 h1 h3
    · intro i hi ih l h1 h2 h3
      refine w41_3 ?_
      rw [Bl hi, geE hi]
      have hsz := siz hi
      obtain ⟨k1, s1, r1, n1, a1, b1, p1, e1, hs1, hr1, t1, u1⟩ := exr (ex.2 _ (List.getElem_mem hi))
      have hab : ax (elO x)[i] = .mk k1 s1 r1 n1 (absExA a1) (abt b1) p1 := by rw [e1]; rfl
      rw [e1] at hsz ⊢
      have hc := sO (cs := [.int .i64 k1, .str s1, .str r1, .int .i64 n1, a1, b1, .int .i64 p1]) (c := a1) (by simp)
      refine ⟨inB hi, copyExprs_ok k a1 g (by omega) t1 _ fun l' hl' hn' ha' => ?_⟩
      have ta : Ha TT 24 (sOf 7 l') := slf unE szExpr (by rw [hn']; exact (t1.els unE).1) hl'
      refine ⟨sOf 7 l', ta, rf _ _, copyPats_ok _ b1 g (Nat.lt_succ_self _) u1 _ fun m hm hmn hma => ?_⟩
      have tb : Ha TT 25 (sOf 5 m) := slf uP szPat (by rw [hmn]; exact (u1.els uP).1) hm
      refine ⟨sOf 5 m, tb, rf _ _, (ex.1.le (by simp; omega)).fits byExpr, ?_⟩
      rw [wra (by omega)]
      refine ih _ (by simp [h1]) (fun y hy => ?_) (take_snoc hi h3 ?_)
      · rcases List.mem_append.1 hy with hy | hy
        · exact h2 y hy
        · simp only [List.mem_singleton] at hy; subst hy; exact ty_expr hs1 hr1 ta tb
      · rw [hab]
        show Ex'.mk k1 s1 r1 n1 (absExA (sOf 7 l')) (abt (sOf 5 m)) p1 = _
        rw [abE, slO, ha', ← abE, aA, slO, hma, ← aA]
theorem copyDecls_ok (x : Dat) (g : Glob) (hx : Ha TT 23 x) (Qf : OGP) (hQ : ∀ l : List Dat, (∀ y ∈ l, Ha TT 76 y) → l.length = (elO x).length → l.map abD = (elO x).map abD → Qf (.val (retOf 4 l)) g) : EvF TT 36 [x] g Qf := by
  have ex := hx.els uD
  have exl := ex.1.1
  refine w36 hx ?_
  refine lU (len := (elO x).length) (fun i => ∀ l : List Dat, l.length = i → (∀ y ∈ l, Ha TT 76 y) → l.map abD = ((elO x).take i).map abD → L36_3 x l (i : Int) g Qf) ?_ ?_ 0 (Nat.zero_le _) [] rfl (fun y h => by cases h) rfl
  · intro l h1 h2 h3
    refine w36_3 ?_
    rw [Bg]
    rw [List.take_length] at h3
    exact hQ l h2 h1 h3
  · intro i hi ih l h1 h2 h3
    refine w36_3 ?_
    rw [Bl hi, geE hi]
    obtain ⟨s1, a1, b1, p1, e1, hs1, ta1, tb1⟩ := det (ex.2 _ (List.getElem_mem hi))
    have hab : abD (elO x)[i] = ⟨s1, (elO a1).map strOf, (elO b1).map aC, p1⟩ := by rw [e1]; rfl
    rw [e1]
    have ea := ta1.els uS
    have eb := tb1.els uC
    have ebl := eb.1.1
    have tA : Ha TT 61 (.sl 1 ([] ++ elO a1)) := .sl _ _ _ _ uS szStr (by simpa using ea.1) (by simpa using ea.2)
    refine ⟨inB hi, (ea.1.le (by simp [fld, nth])).fits byStr, ?_⟩
    refine lU (len := (elO b1).length) (fun j => ∀ m : List Dat, m.length = j → (∀ y ∈ m, Ha TT 91 y) → m.map aC = ((elO b1).take j).map aC →
      L36_9 x l (i : Int) m (j : Int) (.agg [.str s1, .sl 1 ([] ++ elO a1), b1, .int .i64 p1]) g Qf) ?_ ?_ 0 (Nat.zero_le _) [] rfl (fun y h => by cases h) rfl
    · intro m q1 q2 q3
      refine w36_9 ?_
      rw [show (fld (Dat.agg [.str s1, .sl 1 ([] ++ elO a1), b1, .int .i64 p1]) 2) = b1 from rfl, Bg]
      refine ⟨(ex.1.le (by simp; omega)).fits byDecl, ?_⟩
      rw [wra (by omega)]
      rw [List.take_length] at q3
      have tB : Ha TT 74 (sOf 2 m) := slf uC szCon (by rw [q1]; exact eb.1) q2
      refine ih _ (by simp [h1]) (fun y hy => ?_) (take_snoc hi h3 ?_)
      · rcases List.mem_append.1 hy with hy | hy
        · exact h2 y hy
        · simp only [List.mem_singleton] at hy; subst hy; exact ty_decl hs1 tA tB
      · rw [hab]
        show (⟨s1, (elO (.sl 1 ([] ++ elO a1))).map strOf, (elO (sOf 2 m)).map aC, p1⟩ : Dc) = _
        rw [slO, q3]
        rfl
    · intro j hj ihj m q1 q2 q3
      refine w36_9 ?_
      rw [show (fld (Dat.agg [.str s1, .sl 1 ([] ++ elO a1), b1, .int .i64 p1]) 2) = b1 from rfl, Bl hj, geE hj]
      obtain ⟨t1, f1, d1, ht1, tf1⟩ := con_ty (eb.2 _ (List.getElem_mem hj))
      have hac : aC (elO b1)[j] = ⟨t1, abT f1⟩ := by rw [d1]; rfl
      rw [d1]
      refine ⟨inB hj, inB hj, copyTypes_ok _ f1 g (Nat.lt_succ_self _) tf1 _ fun l' hl' hn' ha' => ?_⟩
      have tF : Ha TT 89 (sOf 4 l') := slf uT szType (by rw [hn']; exact (tf1.els uT).1) hl'
      refine ⟨sOf 4 l', tF, rf _ _, (eb.1.le (by simp; omega)).fits byCon, ?_⟩
      rw [wra (by omega)]
      refine ihj _ (by simp [q1]) (fun y hy => ?_) (take_snoc hj q3 ?_)
      · rcases List.mem_append.1 hy with hy | hy
        · exact q2 y hy
        · simp only [List.mem_singleton] at hy; subst hy; exact ty_con ht1 tF
      · rw [hac]
        show (⟨t1, abT (sOf 4 l')⟩ : Cn) = _
        rw [ay, slO, ha', ← ay]
theorem copy_ok (x : Dat) (g : Glob) (hx : Ha TT 29 x) (Qf : OGP) (hQ : ∀ r, Ha TT 29 r → abP r = abP x → Qf (.val (.d r)) g) : EvF TT 23 [x] g Qf := by
  refine w23 hx ?_
  obtain ⟨d1, k1, s1, r1, n1, a1, b1, p1, rfl, hd1, he1⟩ := pro hx
  refine copyDecls_ok d1 g hd1 _ fun l hl hn ha => ?_
  have tD : Ha TT 23 (sOf 4 l) := slf uD szDecl (by rw [hn]; exact (hd1.els uD).1) hl
  refine ⟨sOf 4 l, tD, rf _ _, copyExprs_ok _ _ g (Nat.lt_succ_self _) (one_expr he1) _ fun m hm hmn hma => ?_⟩
  obtain ⟨y, rfl⟩ : ∃ y, m = [y] := by
    match m, hmn with
    | [y], _ => exact ⟨y, rfl⟩
  have hy := hm y (by simp)
  have hya : ax y = ax (.agg [.int .i64 k1, .str s1, .str r1, .int .i64 n1, a1, b1, .int .i64 p1]) := by
    have := hma
    simpa [elO, sub] using this
  refine ⟨.sl 7 [y], one_expr hy, rfl, ⟨Int.le_refl _, by simp [elO]⟩, ?_⟩
  obtain ⟨k2, s2, r2, n2, a2, b2, p2, rfl, hs2, hr2, t2, u2⟩ := exr hy
  refine hQ _ (ty_prog tD (ty_expr hs2 hr2 t2 u2)) ?_
  show (⟨(elO (sOf 4 l)).map abD, ax (.agg [.int .i64 k2, .str s2, .str r2, .int .i64 n2, a2, b2, .int .i64 p2])⟩ : Pg) = ⟨(elO d1).map abD, ax (.agg [.int .i64 k1, .str s1, .str r1, .int .i64 n1, a1, b1, .int .i64 p1])⟩
  rw [slO, ha, hya]
end Go.Proofs.YtgmapdcdmomioaaGreatDoor.Pa
namespace Go.Proofs.YtgmapdcdmomioaaGreatDoor.Pa
open Go Go.Proofs.YtgmapdcdmomioaaGreatDoor.Am
def lo6 : List CuI := []
theorem w6 {x0 : Dat} {x1 : Dat} {g : Glob} {Qf : OGP} (h0 : Ha TT 29 x0) (h1 : Ha TT 29 x1)
    (h : EvF TT 21 [x0] g (KQ Qf fun v g' => ∃ b, v = .d (.bool b) ∧ Br b (EvF TT 15 [] g' (KQ Qf fun v g' => ∃ b, v = .d (.bool b) ∧ Qf (.val (.d (.bool b))) g')) (EvF TT 21 [x1] g' (KQ Qf fun v g' => ∃ b, v = .d (.bool b) ∧ Br b (EvF TT 15 [] g' (KQ Qf fun v g' => ∃ b, v = .d (.bool b) ∧ Qf (.val (.d (.bool b))) g')) (EvF TT 23 [x0] g' (KQ Qf fun v g' => ∃ x, Ha TT 29 x ∧ v = .d x ∧ EvF TT 23 [x1] g' (KQ Qf fun v g' => ∃ x_1, Ha TT 29 x_1 ∧ v = .d x_1 ∧ EvF TT 22 [x, x_1] g' (KQ Qf fun v g' => ∃ b, v = .d (.bool b) ∧ EvF TT 18 [x0, x1, .bool false] g' (KQ Qf fun v g' => ∃ b_1, v = .d (.bool b_1) ∧ Br (b == b_1) (EvF TT 23 [x0] g' (KQ Qf fun v g' => ∃ x, Ha TT 29 x ∧ v = .d x ∧ EvF TT 23 [x0] g' (KQ Qf fun v g' => ∃ x_2, Ha TT 29 x_2 ∧ v = .d x_2 ∧ EvF TT 22 [x, x_2] g' (KQ Qf fun v g' => ∃ b, v = .d (.bool b) ∧ Br b (EvF TT 15 [] g' (KQ Qf fun v g' => ∃ b, v = .d (.bool b) ∧ Qf (.val (.d (.bool b))) g')) (Qf (.val (.d (.bool false))) g'))))) (Qf (.val (.d (.bool false))) g')))))))))) :
    EvF TT 6 [x0, x1] g Qf :=
  su (rk := rk) (fn := Tryz.f6) (loops := lo6) (joins := []) (n := 100000) (args := [(29, x0), (29, x1)]) rfl rfl rfl rfl ⟨h0, h1, trivial⟩ (by kernel_rfl) h
end Go.Proofs.YtgmapdcdmomioaaGreatDoor.Pa
namespace Go.Proofs.YtgmapdcdmomioaaGreatDoor.Pa
open Go Go.Proofs.YtgmapdcdmomioaaGreatDoor.Am
end Go.Proofs.YtgmapdcdmomioaaGreatDoor.Pa
