/- What functions of the program do, printed by wip/tools/sx/sx.py. The document's parser: its state, its small steps. -/
import Derived.Test.YtgmapdcdmomioaaGreatDoorRK
import Derived.Test.YtgmapdcdmomioaaGreatDoorRM
set_option linter.all false
set_option autoImplicit false
set_option maxRecDepth 100000
namespace Go.Proofs.YtgmapdcdmomioaaGreatDoor.Pa
open Go Go.Proofs.YtgmapdcdmomioaaGreatDoor.Am
def lo48 : List CuI := []
theorem w48 {p0 : Nat} {s1 : List UInt8} {g : Glob} {Qf : Out → Glob → Prop} (h1 : s1.length ≤ 2 ^ 40)
  (h : EvF TT 106 [.ptr (some (p0, 0))] g fun out g' => Ou (fun x => Qf (.panic x) g') (fun v => ∃ x, Ha TT 43 x ∧ v = .d x ∧ Br (intOf (fld x 0) == 5) (Qf (.val (.d (.bool (strOf (fld x 1) == s1)))) g') (Br (intOf (fld x 0) == 6) (Qf (.val (.d (.bool (strOf (fld x 1) == s1)))) g') (Qf (.val (.d (.bool false))) g'))) out) :
  EvF TT 48 [.ptr (some (p0, 0)), .str s1] g Qf :=
 su (rk := rk) (fn := Tryz.f48) (loops := lo48) (joins := []) (n := 100000) (args := [(71, .ptr (some (p0, 0))), (9, .str s1)]) rfl rfl rfl rfl ⟨tyt rfl, tyStr rfl h1, trivial⟩ (by kernel_rfl) h
def L49_4 (p0 : Nat) (y3 : Dat) (y2 : Dat) (g : Glob) (Qf : Out → Glob → Prop) : Prop := CutP TT Tryz.f49 [1, 1, 1, 1, 0, 0] Qf (mkC TT 49 Tryz.f49 1 [(0, .v 71 (.ptr (some (p0, 0)))), (2, .loc 2 0 0), (3, .loc 3 0 0)] [(3, .whole 76 y3), (2, .whole 76 y2)] g)
def L49_7 (p0 : Nat) (y3 : Dat) (y2 : Dat) (g : Glob) (Qf : Out → Glob → Prop) : Prop := CutP TT Tryz.f49 [1, 1, 1, 1, 1, 1, 0, 0] Qf (mkC TT 49 Tryz.f49 1 [(0, .v 71 (.ptr (some (p0, 0)))), (2, .loc 2 0 0), (3, .loc 3 0 0)] [(3, .whole 76 y3), (2, .whole 76 y2)] g)
def L49_9 (p0 : Nat) (y4 : Dat) (y3 : Dat) (y2 : Dat) (g : Glob) (Qf : Out → Glob → Prop) : Prop := CutP TT Tryz.f49 [1, 1, 1, 1, 1, 1, 0, 0, 0, 1, 0, 1, 0, 0] Qf (mkC TT 49 Tryz.f49 1 [(0, .v 71 (.ptr (some (p0, 0)))), (2, .loc 2 0 0), (3, .loc 3 0 0), (4, .loc 4 0 0)] [(4, .whole 91 y4), (3, .whole 76 y3), (2, .whole 76 y2)] g)
def lo49 : List CuI := [⟨4, [(0, .keep), (2, .keep), (3, .keep)], [(3, .whole 76), (2, .whole 76)]⟩, ⟨7, [(0, .keep), (2, .keep), (3, .keep)], [(3, .whole 76), (2, .whole 76)]⟩, ⟨9, [(0, .keep), (2, .keep), (3, .keep), (4, .keep)], [(4, .whole 91), (3, .whole 76), (2, .whole 76)]⟩]
theorem w49 {p0 : Nat} {g : Glob} {Qf : Out → Glob → Prop} 
  (h : EvF TT 106 [.ptr (some (p0, 0))] g fun out g' => Ou (fun x => Qf (.panic x) g') (fun v => ∃ x, Ha TT 43 x ∧ v = .d x ∧ EvF TT 107 [.ptr (some (p0, 0)), .str [116, 121, 112, 101]] g' fun out g' => Ou (fun x => Qf (.panic x) g') (fun v => Rt v [] ∧ EvF TT 108 [.ptr (some (p0, 0)), .int .i64 1] g' fun out g' => Ou (fun x => Qf (.panic x) g') (fun v => ∃ s, s.length.le 1099511627776 ∧ v = .d (.str s) ∧ L49_4 p0 (.agg [.str s, .nil, .nil, .int .i64 (intOf (.int .i64 (intOf (fld x 3))))]) (.agg [.str [], .nil, .nil, .int .i64 0]) g' Qf) out) out) out) :
  EvF TT 49 [.ptr (some (p0, 0))] g Qf :=
 su (rk := rk) (fn := Tryz.f49) (loops := lo49) (joins := []) (n := 100000) (args := [(71, .ptr (some (p0, 0)))]) rfl rfl rfl rfl ⟨tyt rfl, trivial⟩ (by kernel_rfl) h
theorem w49_4 {p0 : Nat} {y3 : Dat} {y2 : Dat} {g : Glob} {Qf : Out → Glob → Prop} 
  (h : ∃ n, GOk TT 3 g p0 3 (.int .i64 n) ∧ Br (decide (n < 0)) (EvF TT 106 [.ptr (some (p0, 0))] g fun out g' => Ou (fun x => Qf (.panic x) g') (fun v => ∃ x, Ha TT 43 x ∧ v = .d x ∧ Br (intOf (fld x 0) == 3) (EvF TT 108 [.ptr (some (p0, 0)), .int .i64 3] g' fun out g' => Ou (fun x => Qf (.panic x) g') (fun v => ∃ s, s.length.le 1099511627776 ∧ v = .d (.str s) ∧ Fits ((elO (fld y3 1)).length + [Dat.str s].length) 16 ∧ ∃ r g'_1, gapp 1 (fld y3 1) [.str s] (gto g' 1 1) = some (r, g'_1) ∧ L49_4 p0 (.agg [.str (strOf (fld y3 0)), r, fld y3 2, .int .i64 (intOf (fld y3 3))]) y2 g'_1 Qf) out) (EvF TT 107 [.ptr (some (p0, 0)), .str [61]] g' fun out g' => Ou (fun x => Qf (.panic x) g') (fun v => Rt v [] ∧ L49_7 p0 y3 y2 g' Qf) out)) out) (EvF TT 107 [.ptr (some (p0, 0)), .str [61]] g fun out g' => Ou (fun x => Qf (.panic x) g') (fun v => Rt v [] ∧ L49_7 p0 y3 y2 g' Qf) out)) :
  L49_4 p0 y3 y2 g Qf := sxc (rk := rk) (loops := lo49) (joins := []) (n := 100000) (by kernel_rfl) h
theorem w49_7 {p0 : Nat} {y3 : Dat} {y2 : Dat} {g : Glob} {Qf : Out → Glob → Prop} 
  (h : ∃ n, GOk TT 3 g p0 3 (.int .i64 n) ∧ Br (decide (n < 0)) (EvF TT 108 [.ptr (some (p0, 0)), .int .i64 2] g fun out g' => Ou (fun x => Qf (.panic x) g') (fun v => ∃ s, s.length.le 1099511627776 ∧ v = .d (.str s) ∧ L49_9 p0 (.agg [.str s, .nil]) y3 y2 g' Qf) out) (EvF TT 107 [.ptr (some (p0, 0)), .str [59]] g fun out g' => Ou (fun x => Qf (.panic x) g') (fun v => Rt v [] ∧ Qf (.val (.d (.agg [.str (strOf (fld y3 0)), fld y3 1, fld y3 2, .int .i64 (intOf (fld y3 3))]))) g') out)) :
  L49_7 p0 y3 y2 g Qf := sxc (rk := rk) (loops := lo49) (joins := []) (n := 100000) (by kernel_rfl) h
theorem w49_9 {p0 : Nat} {y4 : Dat} {y3 : Dat} {y2 : Dat} {g : Glob} {Qf : Out → Glob → Prop} 
  (h : ∃ n, GOk TT 3 g p0 3 (.int .i64 n) ∧ Br (decide (n < 0)) (EvF TT 109 [.ptr (some (p0, 0))] g fun out g' => Ou (fun x => Qf (.panic x) g') (fun v => ∃ b, v = .d (.bool b) ∧ Br b (EvF TT 110 [.ptr (some (p0, 0))] g' fun out g' => Ou (fun x => Qf (.panic x) g') (fun v => ∃ x, Ha TT 94 x ∧ v = .d x ∧ Fits ((elO (fld y4 1)).length + [x].length) 56 ∧ ∃ r g'_1, gapp 4 (fld y4 1) [x] (gto g' 4 1) = some (r, g'_1) ∧ L49_9 p0 (.agg [.str (strOf (fld y4 0)), r]) y3 y2 g'_1 Qf) out) (Fits ((elO (fld y3 2)).length + [y4].length) 40 ∧ ∃ r g'_1, gapp 2 (fld y3 2) [y4] (gto g' 2 1) = some (r, g'_1) ∧ EvF TT 111 [.ptr (some (p0, 0)), .str [124]] g'_1 fun out g' => Ou (fun x => Qf (.panic x) g') (fun v => ∃ b, v = .d (.bool b) ∧ Br (!b) (EvF TT 107 [.ptr (some (p0, 0)), .str [59]] g' fun out g' => Ou (fun x => Qf (.panic x) g') (fun v => Rt v [] ∧ Qf (.val (.d (.agg [.str (strOf (.str (strOf (fld y3 0)))), fld (.agg [.str (strOf (fld y3 0)), fld y3 1, r, .int .i64 (intOf (fld y3 3))]) 1, r, .int .i64 (intOf (.int .i64 (intOf (fld y3 3))))]))) g') out) (L49_7 p0 (.agg [.str (strOf (fld y3 0)), fld y3 1, r, .int .i64 (intOf (fld y3 3))]) y2 g' Qf)) out)) out) (Fits ((elO (fld y3 2)).length + [y4].length) 40 ∧ ∃ r g', gapp 2 (fld y3 2) [y4] (gto g 2 1) = some (r, g') ∧ EvF TT 111 [.ptr (some (p0, 0)), .str [124]] g' fun out g' => Ou (fun x => Qf (.panic x) g') (fun v => ∃ b, v = .d (.bool b) ∧ Br (!b) (EvF TT 107 [.ptr (some (p0, 0)), .str [59]] g' fun out g' => Ou (fun x => Qf (.panic x) g') (fun v => Rt v [] ∧ Qf (.val (.d (.agg [.str (strOf (.str (strOf (fld y3 0)))), fld (.agg [.str (strOf (fld y3 0)), fld y3 1, r, .int .i64 (intOf (fld y3 3))]) 1, r, .int .i64 (intOf (.int .i64 (intOf (fld y3 3))))]))) g') out) (L49_7 p0 (.agg [.str (strOf (fld y3 0)), fld y3 1, r, .int .i64 (intOf (fld y3 3))]) y2 g' Qf)) out)) :
  L49_9 p0 y4 y3 y2 g Qf := sxc (rk := rk) (loops := lo49) (joins := []) (n := 100000) (by kernel_rfl) h
def lo50 : List CuI := []
theorem w50 {p0 : Nat} {g : Glob} {Qf : Out → Glob → Prop} 
  (h : EvF TT 106 [.ptr (some (p0, 0))] g fun out g' =>
 Ou (fun x => Qf (.panic x) g')
  (fun v =>
   ∃ x,
    Ha TT 43 x ∧
     v = .d x ∧
      ∃ n,
       GOk TT 3 g' p0 3 (.int .i64 n) ∧
        Br (decide (0 ≤ n)) (Qf (.val (.d (.agg [.int .i64 0, .str [], .str [], .int .i64 0, .nil, .nil, .int .i64 0]))) g')
         (EvF TT 111 [.ptr (some (p0, 0)), .str [102, 117, 110]] g' fun out g' =>
          Ou (fun x => Qf (.panic x) g')
           (fun v =>
            ∃ b,
             v = .d (.bool b) ∧
              Br b (EvF TT 108 [.ptr (some (p0, 0)), .int .i64 1] g' fun out g' => Ou (fun x => Qf (.panic x) g') (fun v => ∃ s, s.length.le 1099511627776 ∧ v = .d (.str s) ∧ EvF TT 107 [.ptr (some (p0, 0)), .str [45, 62]] g' fun out g' => Ou (fun x => Qf (.panic x) g') (fun v => Rt v [] ∧ EvF TT 50 [.ptr (some (p0, 0))] g' fun out g' => Ou (fun x => Qf (.panic x) g') (fun v => ∃ x_1, Ha TT 27 x_1 ∧ v = .d x_1 ∧ Qf (.val (.d (.agg [.int .i64 (intOf (.int .i64 (intOf (.int .i64 3)))), .str s, .str [], .int .i64 (intOf (.int .i64 (intOf (.int .i64 0)))), .sl 7 [x_1], .nil, .int .i64 (intOf (.int .i64 (intOf (.int .i64 (intOf (fld x 3))))))]))) g') out) out) out)
               (EvF TT 111 [.ptr (some (p0, 0)), .str [108, 101, 116]] g' fun out g' =>
                Ou (fun x => Qf (.panic x) g')
                 (fun v =>
                  ∃ b,
                   v = .d (.bool b) ∧
                    Br b (EvF TT 111 [.ptr (some (p0, 0)), .str [114, 101, 99]] g' fun out g' => Ou (fun x => Qf (.panic x) g') (fun v => ∃ b, v = .d (.bool b) ∧ Br b (EvF TT 108 [.ptr (some (p0, 0)), .int .i64 1] g' fun out g' => Ou (fun x => Qf (.panic x) g') (fun v => ∃ s, s.length.le 1099511627776 ∧ v = .d (.str s) ∧ EvF TT 108 [.ptr (some (p0, 0)), .int .i64 1] g' fun out g' => Ou (fun x => Qf (.panic x) g') (fun v => ∃ s_1, s_1.length.le 1099511627776 ∧ v = .d (.str s_1) ∧ EvF TT 107 [.ptr (some (p0, 0)), .str [61]] g' fun out g' => Ou (fun x => Qf (.panic x) g') (fun v => Rt v [] ∧ EvF TT 50 [.ptr (some (p0, 0))] g' fun out g' => Ou (fun x => Qf (.panic x) g') (fun v => ∃ x_1, Ha TT 27 x_1 ∧ v = .d x_1 ∧ EvF TT 107 [.ptr (some (p0, 0)), .str [105, 110]] g' fun out g' => Ou (fun x => Qf (.panic x) g') (fun v => Rt v [] ∧ EvF TT 50 [.ptr (some (p0, 0))] g' fun out g' => Ou (fun x => Qf (.panic x) g') (fun v => ∃ x_2, Ha TT 27 x_2 ∧ v = .d x_2 ∧ Qf (.val (.d (.agg [.int .i64 (intOf (.int .i64 6)), .str s, .str s_1, .int .i64 (intOf (.int .i64 (intOf (.int .i64 0)))), .sl 7 [x_1, x_2], .nil, .int .i64 (intOf (.int .i64 (intOf (.int .i64 (intOf (fld x 3))))))]))) g') out) out) out) out) out) out) (EvF TT 108 [.ptr (some (p0, 0)), .int .i64 1] g' fun out g' => Ou (fun x => Qf (.panic x) g') (fun v => ∃ s, s.length.le 1099511627776 ∧ v = .d (.str s) ∧ EvF TT 107 [.ptr (some (p0, 0)), .str [61]] g' fun out g' => Ou (fun x => Qf (.panic x) g') (fun v => Rt v [] ∧ EvF TT 50 [.ptr (some (p0, 0))] g' fun out g' => Ou (fun x => Qf (.panic x) g') (fun v => ∃ x_1, Ha TT 27 x_1 ∧ v = .d x_1 ∧ EvF TT 107 [.ptr (some (p0, 0)), .str [105, 110]] g' fun out g' => Ou (fun x => Qf (.panic x) g') (fun v => Rt v [] ∧ EvF TT 50 [.ptr (some (p0, 0))] g' fun out g' => Ou (fun x => Qf (.panic x) g') (fun v => ∃ x_2, Ha TT 27 x_2 ∧ v = .d x_2 ∧ Qf (.val (.d (.agg [.int .i64 (intOf (.int .i64 (intOf (.int .i64 5)))), .str s, .str [], .int .i64 (intOf (.int .i64 (intOf (.int .i64 0)))), .sl 7 [x_1, x_2], .nil, .int .i64 (intOf (.int .i64 (intOf (.int .i64 (intOf (fld x 3))))))]))) g') out) out) out) out) out)) out)
                     (EvF TT 111 [.ptr (some (p0, 0)), .str [105, 102]] g' fun out g' => Ou (fun x => Qf (.panic x) g') (fun v => ∃ b, v = .d (.bool b) ∧ Br b (EvF TT 50 [.ptr (some (p0, 0))] g' fun out g' => Ou (fun x => Qf (.panic x) g') (fun v => ∃ x_1, Ha TT 27 x_1 ∧ v = .d x_1 ∧ EvF TT 107 [.ptr (some (p0, 0)), .str [116, 104, 101, 110]] g' fun out g' => Ou (fun x => Qf (.panic x) g') (fun v => Rt v [] ∧ EvF TT 50 [.ptr (some (p0, 0))] g' fun out g' => Ou (fun x => Qf (.panic x) g') (fun v => ∃ x_2, Ha TT 27 x_2 ∧ v = .d x_2 ∧ EvF TT 107 [.ptr (some (p0, 0)), .str [101, 108, 115, 101]] g' fun out g' => Ou (fun x => Qf (.panic x) g') (fun v => Rt v [] ∧ EvF TT 50 [.ptr (some (p0, 0))] g' fun out g' => Ou (fun x => Qf (.panic x) g') (fun v => ∃ x_3, Ha TT 27 x_3 ∧ v = .d x_3 ∧ Qf (.val (.d (.agg [.int .i64 (intOf (.int .i64 7)), .str [], .str [], .int .i64 (intOf (.int .i64 0)), .sl 7 [x_1, x_2, x_3], .sl 5 [.agg [.int .i64 4, .str [84, 114, 117, 101], .int .i64 0, .nil, .int .i64 (intOf (fld x 3))], .agg [.int .i64 4, .str [70, 97, 108, 115, 101], .int .i64 0, .nil, .int .i64 (intOf (fld x 3))]], .int .i64 (intOf (.int .i64 (intOf (fld x 3))))]))) g') out) out) out) out) out) (EvF TT 111 [.ptr (some (p0, 0)), .str [99, 97, 115, 101]] g' fun out g' => Ou (fun x => Qf (.panic x) g') (fun v => ∃ b, v = .d (.bool b) ∧ Br b (EvF TT 112 [.ptr (some (p0, 0)), .int .i64 (intOf (fld x 3))] g' fun out g' => Ou (fun x => Qf (.panic x) g') (fun v => ∃ x, Ha TT 27 x ∧ v = .d x ∧ Qf (.val (.d (.agg [.int .i64 (intOf (fld x 0)), .str (strOf (fld x 1)), .str (strOf (fld x 2)), .int .i64 (intOf (fld x 3)), fld x 4, fld x 5, .int .i64 (intOf (fld x 6))]))) g') out) (EvF TT 113 [.ptr (some (p0, 0)), .int .i64 0] g' fun out g' => Ou (fun x => Qf (.panic x) g') (fun v => ∃ x, Ha TT 27 x ∧ v = .d x ∧ ∃ n, GOk TT 3 g' p0 3 (.int .i64 n) ∧ Br (decide (n < 0)) (EvF TT 111 [.ptr (some (p0, 0)), .str [59]] g' fun out g' => Ou (fun x => Qf (.panic x) g') (fun v => ∃ b, v = .d (.bool b) ∧ Br b (EvF TT 50 [.ptr (some (p0, 0))] g' fun out g' => Ou (fun x => Qf (.panic x) g') (fun v => ∃ x_1, Ha TT 27 x_1 ∧ v = .d x_1 ∧ Qf (.val (.d (.agg [.int .i64 (intOf (.int .i64 7)), .str [], .str [], .int .i64 (intOf (.int .i64 0)), .sl 7 [x, x_1], .sl 5 [.agg [.int .i64 4, .str [85, 110, 105, 116], .int .i64 0, .nil, .int .i64 (intOf (fld x 6))]], .int .i64 (intOf (.int .i64 (intOf (fld x 6))))]))) g') out) (Qf (.val (.d (.agg [.int .i64 (intOf (fld x 0)), .str (strOf (fld x 1)), .str (strOf (fld x 2)), .int .i64 (intOf (fld x 3)), fld x 4, fld x 5, .int .i64 (intOf (fld x 6))]))) g')) out) (Qf (.val (.d (.agg [.int .i64 (intOf (fld x 0)), .str (strOf (fld x 1)), .str (strOf (fld x 2)), .int .i64 (intOf (fld x 3)), fld x 4, fld x 5, .int .i64 (intOf (fld x 6))]))) g')) out)) out)) out))
                 out))
           out))
  out) :
  EvF TT 50 [.ptr (some (p0, 0))] g Qf :=
 su (rk := rk) (fn := Tryz.f50) (loops := lo50) (joins := []) (n := 100000) (args := [(71, .ptr (some (p0, 0)))]) rfl rfl rfl rfl ⟨tyt rfl, trivial⟩ (by kernel_rfl) h
def lo51 : List CuI := []
theorem w51 {p0 : Nat} {g : Glob} {Qf : Out → Glob → Prop} 
  (h : ∃ n, GOk TT 3 g p0 3 (.int .i64 n) ∧ Br (decide (n < 0)) (EvF TT 106 [.ptr (some (p0, 0))] g fun out g' => Ou (fun x => Qf (.panic x) g') (fun v => ∃ x, Ha TT 43 x ∧ v = .d x ∧ GPut g' p0 3 1 ∧ ∃ x_1, Ha TT 37 x_1 ∧ GOk TT 37 (gp g' p0 3 (.int .i64 (intOf (fld x 3)))) p0 0 x_1 ∧ GPut (gp g' p0 3 (.int .i64 (intOf (fld x 3)))) p0 1 1 ∧ Qf (.val (.tuple [])) (gp (gp g' p0 3 (.int .i64 (intOf (fld x 3)))) p0 1 (.int .i64 (↑(elO x_1).length : Int)))) out) (∃ x, Ha TT 37 x ∧ GOk TT 37 g p0 0 x ∧ GPut g p0 1 1 ∧ Qf (.val (.tuple [])) (gp g p0 1 (.int .i64 (↑(elO x).length : Int))))) :
  EvF TT 51 [.ptr (some (p0, 0))] g Qf :=
 su (rk := rk) (fn := Tryz.f51) (loops := lo51) (joins := []) (n := 100000) (args := [(71, .ptr (some (p0, 0)))]) rfl rfl rfl rfl ⟨tyt rfl, trivial⟩ (by kernel_rfl) h
def lo106 : List CuI := []
theorem w106 {p0 : Nat} {g : Glob} {Qf : Out → Glob → Prop} 
  (h : ∃ n, GOk TT 3 g p0 1 (.int .i64 n) ∧ ∃ x, Ha TT 37 x ∧ GOk TT 37 g p0 0 x ∧ Br (decide (n < (↑(elO x).length : Int))) (∃ x, Ha TT 37 x ∧ GOk TT 37 g p0 0 x ∧ ∃ n, GOk TT 3 g p0 1 (.int .i64 n) ∧ InB n (elO x).length ∧ Qf (.val (.d (.agg [.int .i64 (intOf (fld (gtE (elO x) n) 0)), .str (strOf (fld (gtE (elO x) n) 1)), .int .i64 (intOf (fld (gtE (elO x) n) 2)), .int .i64 (intOf (fld (gtE (elO x) n) 3))]))) g) (∃ n, GOk TT 3 g p0 2 (.int .i64 n) ∧ Qf (.val (.d (.agg [.int .i64 (intOf (.int .i64 0)), .str [], .int .i64 (intOf (.int .i64 0)), .int .i64 (intOf (.int .i64 n))]))) g)) :
  EvF TT 106 [.ptr (some (p0, 0))] g Qf :=
 su (rk := rk) (fn := Tryz.f106) (loops := lo106) (joins := []) (n := 100000) (args := [(71, .ptr (some (p0, 0)))]) rfl rfl rfl rfl ⟨tyt rfl, trivial⟩ (by kernel_rfl) h
def lo107 : List CuI := []
theorem w107 {p0 : Nat} {s1 : List UInt8} {g : Glob} {Qf : Out → Glob → Prop} (h1 : s1.length ≤ 2 ^ 40)
  (h : EvF TT 111 [.ptr (some (p0, 0)), .str s1] g fun out g' => Ou (fun x => Qf (.panic x) g') (fun v => ∃ b, v = .d (.bool b) ∧ Br (!b) (EvF TT 51 [.ptr (some (p0, 0))] g' fun out g' => Ou (fun x => Qf (.panic x) g') (fun v => Rt v [] ∧ Qf (.val (.tuple [])) g') out) (Qf (.val (.tuple [])) g')) out) :
  EvF TT 107 [.ptr (some (p0, 0)), .str s1] g Qf :=
 su (rk := rk) (fn := Tryz.f107) (loops := lo107) (joins := []) (n := 100000) (args := [(71, .ptr (some (p0, 0))), (9, .str s1)]) rfl rfl rfl rfl ⟨tyt rfl, tyStr rfl h1, trivial⟩ (by kernel_rfl) h
def lo108 : List CuI := []
theorem w108 {p0 : Nat} {n1 : Int} {g : Glob} {Qf : Out → Glob → Prop} 
  (h : EvF TT 106 [.ptr (some (p0, 0))] g fun out g' => Ou (fun x => Qf (.panic x) g') (fun v => ∃ x, Ha TT 43 x ∧ v = .d x ∧ Br (intOf (fld x 0) != n1) (EvF TT 51 [.ptr (some (p0, 0))] g' fun out g' => Ou (fun x => Qf (.panic x) g') (fun v => Rt v [] ∧ Qf (.val (.d (.str []))) g') out) (∃ n, GOk TT 3 g' p0 1 (.int .i64 n) ∧ GPut g' p0 1 1 ∧ Qf (.val (.d (.str (strOf (fld x 1))))) (gp g' p0 1 (.int .i64 (IntKind.i64.wrap (n + 1)))))) out) :
  EvF TT 108 [.ptr (some (p0, 0)), .int .i64 n1] g Qf :=
 su (rk := rk) (fn := Tryz.f108) (loops := lo108) (joins := []) (n := 100000) (args := [(71, .ptr (some (p0, 0))), (3, .int .i64 n1)]) rfl rfl rfl rfl ⟨tyt rfl, tyInt rfl, trivial⟩ (by kernel_rfl) h
def lo109 : List CuI := []
theorem w109 {p0 : Nat} {g : Glob} {Qf : Out → Glob → Prop} 
  (h : EvF TT 106 [.ptr (some (p0, 0))] g fun out g' => Ou (fun x => Qf (.panic x) g') (fun v => ∃ x, Ha TT 43 x ∧ v = .d x ∧ Br (intOf (fld x 0) == 1) (Qf (.val (.d (.bool true))) g') (Br (intOf (fld x 0) == 3) (Qf (.val (.d (.bool true))) g') (EvF TT 48 [.ptr (some (p0, 0)), .str [40]] g' fun out g' => Ou (fun x => Qf (.panic x) g') (fun v => ∃ b, v = .d (.bool b) ∧ Qf (.val (.d (.bool b))) g') out))) out) :
  EvF TT 109 [.ptr (some (p0, 0))] g Qf :=
 su (rk := rk) (fn := Tryz.f109) (loops := lo109) (joins := []) (n := 100000) (args := [(71, .ptr (some (p0, 0)))]) rfl rfl rfl rfl ⟨tyt rfl, trivial⟩ (by kernel_rfl) h
def lo110 : List CuI := []
theorem w110 {p0 : Nat} {g : Glob} {Qf : Out → Glob → Prop} 
  (h : EvF TT 106 [.ptr (some (p0, 0))] g fun out g' => Ou (fun x => Qf (.panic x) g') (fun v => ∃ x, Ha TT 43 x ∧ v = .d x ∧ Br (intOf (fld x 0) == 1) (EvF TT 108 [.ptr (some (p0, 0)), .int .i64 1] g' fun out g' => Ou (fun x => Qf (.panic x) g') (fun v => ∃ s, s.length.le 1099511627776 ∧ v = .d (.str s) ∧ EvF TT 187 [.str s] g' fun out g' => Ou (fun x => Qf (.panic x) g') (fun v => ∃ x, Ha TT 94 x ∧ v = .d x ∧ Qf (.val (.d (.agg [.int .i64 (intOf (fld x 0)), .str (strOf (fld x 1)), .int .i64 (intOf (fld x 2)), fld x 3]))) g') out) out) (Br (intOf (fld x 0) == 3) (EvF TT 108 [.ptr (some (p0, 0)), .int .i64 3] g' fun out g' => Ou (fun x => Qf (.panic x) g') (fun v => ∃ s, s.length.le 1099511627776 ∧ v = .d (.str s) ∧ Qf (.val (.d (.agg [.int .i64 (intOf (.int .i64 2)), .str s, .int .i64 (intOf (.int .i64 0)), .nil]))) g') out) (EvF TT 107 [.ptr (some (p0, 0)), .str [40]] g' fun out g' => Ou (fun x => Qf (.panic x) g') (fun v => Rt v [] ∧ ∃ n, GOk TT 3 g' p0 3 (.int .i64 n) ∧ Br (decide (0 ≤ n)) (Qf (.val (.d (.agg [.int .i64 0, .str [], .int .i64 0, .nil]))) g') (EvF TT 188 [.ptr (some (p0, 0))] g' fun out g' => Ou (fun x => Qf (.panic x) g') (fun v => ∃ x, Ha TT 94 x ∧ v = .d x ∧ EvF TT 107 [.ptr (some (p0, 0)), .str [41]] g' fun out g' => Ou (fun x => Qf (.panic x) g') (fun v => Rt v [] ∧ Qf (.val (.d (.agg [.int .i64 (intOf (fld x 0)), .str (strOf (fld x 1)), .int .i64 (intOf (fld x 2)), fld x 3]))) g') out) out)) out))) out) :
  EvF TT 110 [.ptr (some (p0, 0))] g Qf :=
 su (rk := rk) (fn := Tryz.f110) (loops := lo110) (joins := []) (n := 100000) (args := [(71, .ptr (some (p0, 0)))]) rfl rfl rfl rfl ⟨tyt rfl, trivial⟩ (by kernel_rfl) h
def lo111 : List CuI := []
theorem w111 {p0 : Nat} {s1 : List UInt8} {g : Glob} {Qf : Out → Glob → Prop} (h1 : s1.length ≤ 2 ^ 40)
  (h : EvF TT 48 [.ptr (some (p0, 0)), .str s1] g fun out g' => Ou (fun x => Qf (.panic x) g') (fun v => ∃ b, v = .d (.bool b) ∧ Br b (∃ n, GOk TT 3 g' p0 1 (.int .i64 n) ∧ GPut g' p0 1 1 ∧ Qf (.val (.d (.bool true))) (gp g' p0 1 (.int .i64 (IntKind.i64.wrap (n + 1))))) (Qf (.val (.d (.bool false))) g')) out) :
  EvF TT 111 [.ptr (some (p0, 0)), .str s1] g Qf :=
 su (rk := rk) (fn := Tryz.f111) (loops := lo111) (joins := []) (n := 100000) (args := [(71, .ptr (some (p0, 0))), (9, .str s1)]) rfl rfl rfl rfl ⟨tyt rfl, tyStr rfl h1, trivial⟩ (by kernel_rfl) h
def L112_3 (p0 : Nat) (y5 : Dat) (y4 : Dat) (g : Glob) (Qf : Out → Glob → Prop) : Prop := CutP TT Tryz.f112 [1, 1, 1, 0, 0] Qf (mkC TT 112 Tryz.f112 2 [(0, .v 71 (.ptr (some (p0, 0)))), (4, .loc 4 0 0), (5, .loc 5 0 0)] [(5, .whole 27 y5), (4, .whole 27 y4)] g)
def lo112 : List CuI := [⟨3, [(0, .keep), (4, .keep), (5, .keep)], [(5, .whole 27), (4, .whole 27)]⟩]
theorem w112 {p0 : Nat} {n1 : Int} {g : Glob} {Qf : Out → Glob → Prop} 
  (h : EvF TT 50 [.ptr (some (p0, 0))] g fun out g' => Ou (fun x => Qf (.panic x) g') (fun v => ∃ x, Ha TT 27 x ∧ v = .d x ∧ EvF TT 107 [.ptr (some (p0, 0)), .str [111, 102]] (gto g' 7 1) fun out g'_1 => Ou (fun x => Qf (.panic x) g'_1) (fun v => Rt v [] ∧ L112_3 p0 (.agg [.int .i64 7, .str [], .str [], .int .i64 0, .gsl g'.toks.length 7 [x], .nil, .int .i64 n1]) (.agg [.int .i64 0, .str [], .str [], .int .i64 0, .nil, .nil, .int .i64 0]) g'_1 Qf) out) out) :
  EvF TT 112 [.ptr (some (p0, 0)), .int .i64 n1] g Qf :=
 su (rk := rk) (fn := Tryz.f112) (loops := lo112) (joins := []) (n := 100000) (args := [(71, .ptr (some (p0, 0))), (3, .int .i64 n1)]) rfl rfl rfl rfl ⟨tyt rfl, tyInt rfl, trivial⟩ (by kernel_rfl) h
theorem w112_3 {p0 : Nat} {y5 : Dat} {y4 : Dat} {g : Glob} {Qf : Out → Glob → Prop} 
  (h : ∃ n, GOk TT 3 g p0 3 (.int .i64 n) ∧ Br (decide (n < 0)) (EvF TT 189 [.ptr (some (p0, 0))] g fun out g' => Ou (fun x => Qf (.panic x) g') (fun v => ∃ x, Ha TT 127 x ∧ v = .d x ∧ Fits ((elO (fld y5 5)).length + [x].length) 64 ∧ ∃ r g'_1, gapp 5 (fld y5 5) [x] (gto g' 5 1) = some (r, g'_1) ∧ EvF TT 107 [.ptr (some (p0, 0)), .str [45, 62]] g'_1 fun out g' => Ou (fun x => Qf (.panic x) g') (fun v => Rt v [] ∧ EvF TT 50 [.ptr (some (p0, 0))] g' fun out g' => Ou (fun x => Qf (.panic x) g') (fun v => ∃ x, Ha TT 27 x ∧ v = .d x ∧ Fits ((elO (fld y5 4)).length + [x].length) 104 ∧ ∃ r_1 g'_2, gapp 7 (fld y5 4) [x] (gto g' 7 1) = some (r_1, g'_2) ∧ EvF TT 111 [.ptr (some (p0, 0)), .str [124]] g'_2 fun out g' => Ou (fun x => Qf (.panic x) g') (fun v => ∃ b, v = .d (.bool b) ∧ Br (!b) (EvF TT 107 [.ptr (some (p0, 0)), .str [101, 110, 100]] g' fun out g' => Ou (fun x => Qf (.panic x) g') (fun v => Rt v [] ∧ Qf (.val (.d (.agg [.int .i64 (intOf (.int .i64 (intOf (fld y5 0)))), .str (strOf (.str (strOf (fld y5 1)))), .str (strOf (.str (strOf (fld y5 2)))), .int .i64 (intOf (.int .i64 (intOf (fld y5 3)))), r_1, r, .int .i64 (intOf (.int .i64 (intOf (fld y5 6))))]))) g') out) (L112_3 p0 (.agg [.int .i64 (intOf (fld y5 0)), .str (strOf (fld y5 1)), .str (strOf (fld y5 2)), .int .i64 (intOf (fld y5 3)), r_1, r, .int .i64 (intOf (fld y5 6))]) y4 g' Qf)) out) out) out) out) (EvF TT 107 [.ptr (some (p0, 0)), .str [101, 110, 100]] g fun out g' => Ou (fun x => Qf (.panic x) g') (fun v => Rt v [] ∧ Qf (.val (.d (.agg [.int .i64 (intOf (fld y5 0)), .str (strOf (fld y5 1)), .str (strOf (fld y5 2)), .int .i64 (intOf (fld y5 3)), fld y5 4, fld y5 5, .int .i64 (intOf (fld y5 6))]))) g') out)) :
  L112_3 p0 y5 y4 g Qf := sxc (rk := rk) (loops := lo112) (joins := []) (n := 100000) (by kernel_rfl) h
def L113_5 (p0 : Nat) (n1 : Int) (x6 : Dat) (y5 : Dat) (y4 : Dat) (g : Glob) (Qf : Out → Glob → Prop) : Prop := CutP TT Tryz.f113 [1, 1, 1, 1, 0, 0] Qf (mkC TT 113 Tryz.f113 2 [(0, .v 71 (.ptr (some (p0, 0)))), (1, .v 3 (.int .i64 n1)), (4, .loc 4 0 0), (5, .loc 5 0 0), (6, .v 61 (x6))] [(5, .whole 27 y5), (4, .whole 27 y4)] g)
def L113_8 (p0 : Nat) (n1 : Int) (x6 : Dat) (s7 : List UInt8) (n8 : Int) (y5 : Dat) (y4 : Dat) (g : Glob) (Qf : Out → Glob → Prop) : Prop := CutP TT Tryz.f113 [1, 1, 1, 1, 0, 0, 0, 1, 0, 1, 0, 1, 0] Qf (mkC TT 113 Tryz.f113 2 [(0, .v 71 (.ptr (some (p0, 0)))), (1, .v 3 (.int .i64 n1)), (4, .loc 4 0 0), (5, .loc 5 0 0), (6, .v 61 (x6)), (7, .v 9 (.str s7)), (8, .v 3 (.int .i64 n8))] [(5, .whole 27 y5), (4, .whole 27 y4)] g)
def lo113 : List CuI := [⟨5, [(0, .keep), (1, .keep), (4, .keep), (5, .keep), (6, .keep)], [(5, .whole 27), (4, .whole 27)]⟩, ⟨8, [(0, .keep), (1, .keep), (4, .keep), (5, .keep), (6, .keep), (7, .keep), (8, .keep)], [(5, .whole 27), (4, .whole 27)]⟩]
theorem w113 {p0 : Nat} {n1 : Int} {g : Glob} {Qf : Out → Glob → Prop} 
  (h : Br (n1 == 3) (EvF TT 190 [.ptr (some (p0, 0))] g fun out g' => Ou (fun x => Qf (.panic x) g') (fun v => ∃ x, Ha TT 27 x ∧ v = .d x ∧ Qf (.val (.d (.agg [.int .i64 (intOf (fld x 0)), .str (strOf (fld x 1)), .str (strOf (fld x 2)), .int .i64 (intOf (fld x 3)), fld x 4, fld x 5, .int .i64 (intOf (fld x 6))]))) g') out) (EvF TT 113 [.ptr (some (p0, 0)), .int .i64 (IntKind.i64.wrap (n1 + 1))] g fun out g' => Ou (fun x => Qf (.panic x) g') (fun v => ∃ x, Ha TT 27 x ∧ v = .d x ∧ EvF TT 191 [.int .i64 n1] g' fun out g' => Ou (fun x => Qf (.panic x) g') (fun v => ∃ x_1, Ha TT 61 x_1 ∧ RetV v x_1 ∧ L113_5 p0 n1 x_1 x (.agg [.int .i64 0, .str [], .str [], .int .i64 0, .nil, .nil, .int .i64 0]) g' Qf) out) out)) :
  EvF TT 113 [.ptr (some (p0, 0)), .int .i64 n1] g Qf :=
 su (rk := rk) (fn := Tryz.f113) (loops := lo113) (joins := []) (n := 100000) (args := [(71, .ptr (some (p0, 0))), (3, .int .i64 n1)]) rfl rfl rfl rfl ⟨tyt rfl, tyInt rfl, trivial⟩ (by kernel_rfl) h
theorem w113_5 {p0 : Nat} {n1 : Int} {x6 : Dat} {y5 : Dat} {y4 : Dat} {g : Glob} {Qf : Out → Glob → Prop} 
  (h : ∃ n, GOk TT 3 g p0 3 (.int .i64 n) ∧ Br (decide (n < 0)) (L113_8 p0 n1 x6 [] 0 y5 y4 g Qf) (Qf (.val (.d (.agg [.int .i64 (intOf (fld y5 0)), .str (strOf (fld y5 1)), .str (strOf (fld y5 2)), .int .i64 (intOf (fld y5 3)), fld y5 4, fld y5 5, .int .i64 (intOf (fld y5 6))]))) g)) :
  L113_5 p0 n1 x6 y5 y4 g Qf := sxc (rk := rk) (loops := lo113) (joins := []) (n := 100000) (by kernel_rfl) h
theorem w113_8 {p0 : Nat} {n1 : Int} {x6 : Dat} {s7 : List UInt8} {n8 : Int} {y5 : Dat} {y4 : Dat} {g : Glob} {Qf : Out → Glob → Prop} 
  (h : Br (decide (n8 < (↑(elO x6).length : Int))) (InB n8 (elO x6).length ∧ EvF TT 48 [.ptr (some (p0, 0)), .str (strOf (fld (gtE (elO x6) n8) 0))] g fun out g' => Ou (fun x => Qf (.panic x) g') (fun v => ∃ b, v = .d (.bool b) ∧ Br b (InB n8 (elO x6).length ∧ L113_8 p0 n1 x6 (strOf (fld (gtE (elO x6) n8) 0)) (IntKind.i64.wrap (n8 + 1)) y5 y4 g' Qf) (L113_8 p0 n1 x6 s7 (IntKind.i64.wrap (n8 + 1)) y5 y4 g' Qf)) out) (Br (s7 == []) (Qf (.val (.d (.agg [.int .i64 (intOf (fld y5 0)), .str (strOf (fld y5 1)), .str (strOf (fld y5 2)), .int .i64 (intOf (fld y5 3)), fld y5 4, fld y5 5, .int .i64 (intOf (fld y5 6))]))) g) (∃ n, GOk TT 3 g p0 1 (.int .i64 n) ∧ GPut g p0 1 1 ∧ EvF TT 113 [.ptr (some (p0, 0)), .int .i64 (IntKind.i64.wrap (n1 + 1))] (gp g p0 1 (.int .i64 (IntKind.i64.wrap (n + 1)))) fun out g' => Ou (fun x => Qf (.panic x) g') (fun v => ∃ x, Ha TT 27 x ∧ v = .d x ∧ Br (n1 == 0) (Qf (.val (.d (.agg [.int .i64 (intOf (.int .i64 9)), .str s7, .str [], .int .i64 (intOf (.int .i64 0)), .sl 7 [y5, x], .nil, .int .i64 (intOf (.int .i64 (intOf (fld y5 6))))]))) g') (L113_5 p0 n1 x6 (.agg [.int .i64 9, .str s7, .str [], .int .i64 0, .sl 7 [y5, x], .nil, .int .i64 (intOf (fld y5 6))]) y4 g' Qf)) out))) :
  L113_8 p0 n1 x6 s7 n8 y5 y4 g Qf := sxc (rk := rk) (loops := lo113) (joins := []) (n := 100000) (by kernel_rfl) h
def lo187 : List CuI := []
theorem w187 {s0 : List UInt8} {g : Glob} {Qf : Out → Glob → Prop} (h0 : s0.length ≤ 2 ^ 40)
  (h : Br (s0 == [105, 110, 116]) (Qf (.val (.d (.agg [.int .i64 1, .str [], .int .i64 0, .nil]))) g) (Qf (.val (.d (.agg [.int .i64 (intOf (.int .i64 4)), .str s0, .int .i64 (intOf (.int .i64 0)), .nil]))) g)) :
  EvF TT 187 [.str s0] g Qf :=
 su (rk := rk) (fn := Tryz.f187) (loops := lo187) (joins := []) (n := 100000) (args := [(9, .str s0)]) rfl rfl rfl rfl ⟨tyStr rfl h0, trivial⟩ (by kernel_rfl) h
def lo188 : List CuI := []
theorem w188 {p0 : Nat} {g : Glob} {Qf : Out → Glob → Prop} 
  (h : EvF TT 216 [.ptr (some (p0, 0))] g fun out g' => Ou (fun x => Qf (.panic x) g') (fun v => ∃ x, Ha TT 94 x ∧ v = .d x ∧ ∃ n, GOk TT 3 g' p0 3 (.int .i64 n) ∧ Br (decide (n < 0)) (EvF TT 111 [.ptr (some (p0, 0)), .str [45, 62]] g' fun out g' => Ou (fun x => Qf (.panic x) g') (fun v => ∃ b, v = .d (.bool b) ∧ Br b (EvF TT 188 [.ptr (some (p0, 0))] g' fun out g' => Ou (fun x => Qf (.panic x) g') (fun v => ∃ x_1, Ha TT 94 x_1 ∧ v = .d x_1 ∧ Qf (.val (.d (.agg [.int .i64 (intOf (.int .i64 3)), .str [], .int .i64 (intOf (.int .i64 0)), .sl 4 [x, x_1]]))) g') out) (Qf (.val (.d (.agg [.int .i64 (intOf (fld x 0)), .str (strOf (fld x 1)), .int .i64 (intOf (fld x 2)), fld x 3]))) g')) out) (Qf (.val (.d (.agg [.int .i64 (intOf (fld x 0)), .str (strOf (fld x 1)), .int .i64 (intOf (fld x 2)), fld x 3]))) g')) out) :
  EvF TT 188 [.ptr (some (p0, 0))] g Qf :=
 su (rk := rk) (fn := Tryz.f188) (loops := lo188) (joins := []) (n := 100000) (args := [(71, .ptr (some (p0, 0)))]) rfl rfl rfl rfl ⟨tyt rfl, trivial⟩ (by kernel_rfl) h
def L189_5 (p0 : Nat) (y4 : Dat) (y2 : Dat) (g : Glob) (Qf : Out → Glob → Prop) : Prop := CutP TT Tryz.f189 [1, 1, 1, 1, 0, 0] Qf (mkC TT 189 Tryz.f189 1 [(0, .v 71 (.ptr (some (p0, 0)))), (2, .loc 2 0 0), (4, .loc 4 0 0)] [(4, .whole 127 y4), (2, .whole 127 y2)] g)
def lo189 : List CuI := [⟨5, [(0, .keep), (2, .keep), (4, .keep)], [(4, .whole 127), (2, .whole 127)]⟩]
theorem w189 {p0 : Nat} {g : Glob} {Qf : Out → Glob → Prop} 
  (h : EvF TT 106 [.ptr (some (p0, 0))] g fun out g' => Ou (fun x => Qf (.panic x) g') (fun v => ∃ x, Ha TT 43 x ∧ v = .d x ∧ Br (intOf (fld x 0) != 2) (EvF TT 217 [.ptr (some (p0, 0))] g' fun out g' => Ou (fun x => Qf (.panic x) g') (fun v => ∃ x, Ha TT 127 x ∧ v = .d x ∧ Qf (.val (.d (.agg [.int .i64 (intOf (fld x 0)), .str (strOf (fld x 1)), .int .i64 (intOf (fld x 2)), fld x 3, .int .i64 (intOf (fld x 4))]))) g') out) (EvF TT 108 [.ptr (some (p0, 0)), .int .i64 (intOf (fld x 0))] g' fun out g' => Ou (fun x => Qf (.panic x) g') (fun v => ∃ s, s.length.le 1099511627776 ∧ v = .d (.str s) ∧ L189_5 p0 (.agg [.int .i64 4, .str s, .int .i64 0, .nil, .int .i64 (intOf (fld x 3))]) (.agg [.int .i64 0, .str [], .int .i64 0, .nil, .int .i64 0]) g' Qf) out)) out) :
  EvF TT 189 [.ptr (some (p0, 0))] g Qf :=
 su (rk := rk) (fn := Tryz.f189) (loops := lo189) (joins := []) (n := 100000) (args := [(71, .ptr (some (p0, 0)))]) rfl rfl rfl rfl ⟨tyt rfl, trivial⟩ (by kernel_rfl) h
theorem w189_5 {p0 : Nat} {y4 : Dat} {y2 : Dat} {g : Glob} {Qf : Out → Glob → Prop} 
  (h : ∃ n, GOk TT 3 g p0 3 (.int .i64 n) ∧ Br (decide (n < 0)) (EvF TT 218 [.ptr (some (p0, 0))] g fun out g' => Ou (fun x => Qf (.panic x) g') (fun v => ∃ b, v = .d (.bool b) ∧ Br b (EvF TT 217 [.ptr (some (p0, 0))] g' fun out g' => Ou (fun x => Qf (.panic x) g') (fun v => ∃ x, Ha TT 127 x ∧ v = .d x ∧ Fits ((elO (fld y4 3)).length + [x].length) 64 ∧ ∃ r g'_1, gapp 5 (fld y4 3) [x] (gto g' 5 1) = some (r, g'_1) ∧ L189_5 p0 (.agg [.int .i64 (intOf (fld y4 0)), .str (strOf (fld y4 1)), .int .i64 (intOf (fld y4 2)), r, .int .i64 (intOf (fld y4 4))]) y2 g'_1 Qf) out) (EvF TT 48 [.ptr (some (p0, 0)), .str [95]] g' fun out g' => Ou (fun x => Qf (.panic x) g') (fun v => ∃ b, v = .d (.bool b) ∧ Br b (EvF TT 217 [.ptr (some (p0, 0))] g' fun out g' => Ou (fun x => Qf (.panic x) g') (fun v => ∃ x, Ha TT 127 x ∧ v = .d x ∧ Fits ((elO (fld y4 3)).length + [x].length) 64 ∧ ∃ r g'_1, gapp 5 (fld y4 3) [x] (gto g' 5 1) = some (r, g'_1) ∧ L189_5 p0 (.agg [.int .i64 (intOf (fld y4 0)), .str (strOf (fld y4 1)), .int .i64 (intOf (fld y4 2)), r, .int .i64 (intOf (fld y4 4))]) y2 g'_1 Qf) out) (Qf (.val (.d (.agg [.int .i64 (intOf (fld y4 0)), .str (strOf (fld y4 1)), .int .i64 (intOf (fld y4 2)), fld y4 3, .int .i64 (intOf (fld y4 4))]))) g')) out)) out) (Qf (.val (.d (.agg [.int .i64 (intOf (fld y4 0)), .str (strOf (fld y4 1)), .int .i64 (intOf (fld y4 2)), fld y4 3, .int .i64 (intOf (fld y4 4))]))) g)) :
  L189_5 p0 y4 y2 g Qf := sxc (rk := rk) (loops := lo189) (joins := []) (n := 100000) (by kernel_rfl) h
def L190_6 (p0 : Nat) (y4 : Dat) (y2 : Dat) (g : Glob) (Qf : Out → Glob → Prop) : Prop := CutP TT Tryz.f190 [1, 1, 1, 0, 1, 0, 1, 0, 0] Qf (mkC TT 190 Tryz.f190 1 [(0, .v 71 (.ptr (some (p0, 0)))), (2, .loc 2 0 0), (4, .loc 4 0 0)] [(4, .whole 27 y4), (2, .whole 27 y2)] g)
def L190_10 (p0 : Nat) (y5 : Dat) (y2 : Dat) (g : Glob) (Qf : Out → Glob → Prop) : Prop := CutP TT Tryz.f190 [1, 1, 1, 1, 1, 0, 0] Qf (mkC TT 190 Tryz.f190 1 [(0, .v 71 (.ptr (some (p0, 0)))), (2, .loc 2 0 0), (5, .loc 5 0 0)] [(5, .whole 27 y5), (2, .whole 27 y2)] g)
def lo190 : List CuI := [⟨6, [(0, .keep), (2, .keep), (4, .keep)], [(4, .whole 27), (2, .whole 27)]⟩, ⟨10, [(0, .keep), (2, .keep), (5, .keep)], [(5, .whole 27), (2, .whole 27)]⟩]
theorem w190 {p0 : Nat} {g : Glob} {Qf : Out → Glob → Prop} 
  (h : EvF TT 106 [.ptr (some (p0, 0))] g fun out g' => Ou (fun x => Qf (.panic x) g') (fun v => ∃ x, Ha TT 43 x ∧ v = .d x ∧ EvF TT 111 [.ptr (some (p0, 0)), .str [112, 114, 105, 110, 116]] g' fun out g' => Ou (fun x => Qf (.panic x) g') (fun v => ∃ b, v = .d (.bool b) ∧ Br b (EvF TT 219 [.ptr (some (p0, 0))] g' fun out g' => Ou (fun x => Qf (.panic x) g') (fun v => ∃ x_1, Ha TT 27 x_1 ∧ v = .d x_1 ∧ Qf (.val (.d (.agg [.int .i64 (intOf (.int .i64 10)), .str [], .str [], .int .i64 (intOf (.int .i64 0)), .gsl g'.toks.length 7 [x_1], .nil, .int .i64 (intOf (.int .i64 (intOf (fld x 3))))]))) (gto g' 7 1)) out) (EvF TT 106 [.ptr (some (p0, 0))] g' fun out g' => Ou (fun x => Qf (.panic x) g') (fun v => ∃ x_1, Ha TT 43 x_1 ∧ v = .d x_1 ∧ Br (intOf (fld x_1 0) == 2) (EvF TT 108 [.ptr (some (p0, 0)), .int .i64 2] g' fun out g' => Ou (fun x => Qf (.panic x) g') (fun v => ∃ s, s.length.le 1099511627776 ∧ v = .d (.str s) ∧ L190_6 p0 (.agg [.int .i64 8, .str s, .str [], .int .i64 0, .nil, .nil, .int .i64 (intOf (fld x 3))]) (.agg [.int .i64 0, .str [], .str [], .int .i64 0, .nil, .nil, .int .i64 0]) g' Qf) out) (EvF TT 219 [.ptr (some (p0, 0))] g' fun out g' => Ou (fun x => Qf (.panic x) g') (fun v => ∃ x, Ha TT 27 x ∧ v = .d x ∧ L190_10 p0 x (.agg [.int .i64 0, .str [], .str [], .int .i64 0, .nil, .nil, .int .i64 0]) g' Qf) out)) out)) out) out) :
  EvF TT 190 [.ptr (some (p0, 0))] g Qf :=
 su (rk := rk) (fn := Tryz.f190) (loops := lo190) (joins := []) (n := 100000) (args := [(71, .ptr (some (p0, 0)))]) rfl rfl rfl rfl ⟨tyt rfl, trivial⟩ (by kernel_rfl) h
theorem w190_6 {p0 : Nat} {y4 : Dat} {y2 : Dat} {g : Glob} {Qf : Out → Glob → Prop} 
  (h : ∃ n, GOk TT 3 g p0 3 (.int .i64 n) ∧ Br (decide (n < 0)) (EvF TT 218 [.ptr (some (p0, 0))] g fun out g' => Ou (fun x => Qf (.panic x) g') (fun v => ∃ b, v = .d (.bool b) ∧ Br b (EvF TT 219 [.ptr (some (p0, 0))] g' fun out g' => Ou (fun x => Qf (.panic x) g') (fun v => ∃ x, Ha TT 27 x ∧ v = .d x ∧ Fits ((elO (fld y4 4)).length + [x].length) 104 ∧ ∃ r g'_1, gapp 7 (fld y4 4) [x] (gto g' 7 1) = some (r, g'_1) ∧ L190_6 p0 (.agg [.int .i64 (intOf (fld y4 0)), .str (strOf (fld y4 1)), .str (strOf (fld y4 2)), .int .i64 (intOf (fld y4 3)), r, fld y4 5, .int .i64 (intOf (fld y4 6))]) y2 g'_1 Qf) out) (Qf (.val (.d (.agg [.int .i64 (intOf (fld y4 0)), .str (strOf (fld y4 1)), .str (strOf (fld y4 2)), .int .i64 (intOf (fld y4 3)), fld y4 4, fld y4 5, .int .i64 (intOf (fld y4 6))]))) g')) out) (Qf (.val (.d (.agg [.int .i64 (intOf (fld y4 0)), .str (strOf (fld y4 1)), .str (strOf (fld y4 2)), .int .i64 (intOf (fld y4 3)), fld y4 4, fld y4 5, .int .i64 (intOf (fld y4 6))]))) g)) :
  L190_6 p0 y4 y2 g Qf := sxc (rk := rk) (loops := lo190) (joins := []) (n := 100000) (by kernel_rfl) h
theorem w190_10 {p0 : Nat} {y5 : Dat} {y2 : Dat} {g : Glob} {Qf : Out → Glob → Prop} 
  (h : ∃ n, GOk TT 3 g p0 3 (.int .i64 n) ∧ Br (decide (n < 0)) (EvF TT 218 [.ptr (some (p0, 0))] g fun out g' => Ou (fun x => Qf (.panic x) g') (fun v => ∃ b, v = .d (.bool b) ∧ Br b (EvF TT 219 [.ptr (some (p0, 0))] g' fun out g' => Ou (fun x => Qf (.panic x) g') (fun v => ∃ x, Ha TT 27 x ∧ v = .d x ∧ L190_10 p0 (.agg [.int .i64 4, .str [], .str [], .int .i64 0, .gsl g'.toks.length 7 [y5, x], .nil, .int .i64 (intOf (fld y5 6))]) y2 (gto g' 7 2) Qf) out) (Qf (.val (.d (.agg [.int .i64 (intOf (fld y5 0)), .str (strOf (fld y5 1)), .str (strOf (fld y5 2)), .int .i64 (intOf (fld y5 3)), fld y5 4, fld y5 5, .int .i64 (intOf (fld y5 6))]))) g')) out) (Qf (.val (.d (.agg [.int .i64 (intOf (fld y5 0)), .str (strOf (fld y5 1)), .str (strOf (fld y5 2)), .int .i64 (intOf (fld y5 3)), fld y5 4, fld y5 5, .int .i64 (intOf (fld y5 6))]))) g)) :
  L190_10 p0 y5 y2 g Qf := sxc (rk := rk) (loops := lo190) (joins := []) (n := 100000) (by kernel_rfl) h
def lo191 : List CuI := []
theorem w191 {n0 : Int} {g : Glob} {Qf : Out → Glob → Prop} 
  (h : Br (n0 == 0) (Qf (.val (.uq 1 [.str [60], .str [61, 61]])) g) (Br (n0 == 1) (Qf (.val (.uq 1 [.str [43], .str [45]])) g) (Qf (.val (.uq 1 [.str [42], .str [47], .str [37]])) g))) :
  EvF TT 191 [.int .i64 n0] g Qf :=
 su (rk := rk) (fn := Tryz.f191) (loops := lo191) (joins := []) (n := 100000) (args := [(3, .int .i64 n0)]) rfl rfl rfl rfl ⟨tyInt rfl, trivial⟩ (by kernel_rfl) h
def L216_4 (p0 : Nat) (y3 : Dat) (y2 : Dat) (g : Glob) (Qf : Out → Glob → Prop) : Prop := CutP TT Tryz.f216 [1, 1, 1, 0, 0] Qf (mkC TT 216 Tryz.f216 1 [(0, .v 71 (.ptr (some (p0, 0)))), (2, .loc 2 0 0), (3, .loc 3 0 0)] [(3, .whole 94 y3), (2, .whole 94 y2)] g)
def lo216 : List CuI := [⟨4, [(0, .keep), (2, .keep), (3, .keep)], [(3, .whole 94), (2, .whole 94)]⟩]
theorem w216 {p0 : Nat} {g : Glob} {Qf : Out → Glob → Prop} 
  (h : EvF TT 106 [.ptr (some (p0, 0))] g fun out g' => Ou (fun x => Qf (.panic x) g') (fun v => ∃ x, Ha TT 43 x ∧ v = .d x ∧ Br (intOf (fld x 0) != 1) (EvF TT 110 [.ptr (some (p0, 0))] g' fun out g' => Ou (fun x => Qf (.panic x) g') (fun v => ∃ x, Ha TT 94 x ∧ v = .d x ∧ Qf (.val (.d (.agg [.int .i64 (intOf (fld x 0)), .str (strOf (fld x 1)), .int .i64 (intOf (fld x 2)), fld x 3]))) g') out) (EvF TT 108 [.ptr (some (p0, 0)), .int .i64 1] g' fun out g' => Ou (fun x => Qf (.panic x) g') (fun v => ∃ s, s.length.le 1099511627776 ∧ v = .d (.str s) ∧ EvF TT 187 [.str s] g' fun out g' => Ou (fun x => Qf (.panic x) g') (fun v => ∃ x, Ha TT 94 x ∧ v = .d x ∧ L216_4 p0 x (.agg [.int .i64 0, .str [], .int .i64 0, .nil]) g' Qf) out) out)) out) :
  EvF TT 216 [.ptr (some (p0, 0))] g Qf :=
 su (rk := rk) (fn := Tryz.f216) (loops := lo216) (joins := []) (n := 100000) (args := [(71, .ptr (some (p0, 0)))]) rfl rfl rfl rfl ⟨tyt rfl, trivial⟩ (by kernel_rfl) h
theorem w216_4 {p0 : Nat} {y3 : Dat} {y2 : Dat} {g : Glob} {Qf : Out → Glob → Prop} 
  (h : ∃ n, GOk TT 3 g p0 3 (.int .i64 n) ∧ Br (decide (n < 0)) (EvF TT 109 [.ptr (some (p0, 0))] g fun out g' => Ou (fun x => Qf (.panic x) g') (fun v => ∃ b, v = .d (.bool b) ∧ Br b (Br (intOf (fld y3 0) == 1) (EvF TT 51 [.ptr (some (p0, 0))] g' fun out g' => Ou (fun x => Qf (.panic x) g') (fun v => Rt v [] ∧ Qf (.val (.d (.agg [.int .i64 (intOf (fld y3 0)), .str (strOf (fld y3 1)), .int .i64 (intOf (fld y3 2)), fld y3 3]))) g') out) (EvF TT 110 [.ptr (some (p0, 0))] g' fun out g' => Ou (fun x => Qf (.panic x) g') (fun v => ∃ x, Ha TT 94 x ∧ v = .d x ∧ Fits ((elO (fld y3 3)).length + [x].length) 56 ∧ ∃ r g'_1, gapp 4 (fld y3 3) [x] (gto g' 4 1) = some (r, g'_1) ∧ L216_4 p0 (.agg [.int .i64 (intOf (fld y3 0)), .str (strOf (fld y3 1)), .int .i64 (intOf (fld y3 2)), r]) y2 g'_1 Qf) out)) (Qf (.val (.d (.agg [.int .i64 (intOf (fld y3 0)), .str (strOf (fld y3 1)), .int .i64 (intOf (fld y3 2)), fld y3 3]))) g')) out) (Qf (.val (.d (.agg [.int .i64 (intOf (fld y3 0)), .str (strOf (fld y3 1)), .int .i64 (intOf (fld y3 2)), fld y3 3]))) g)) :
  L216_4 p0 y3 y2 g Qf := sxc (rk := rk) (loops := lo216) (joins := []) (n := 100000) (by kernel_rfl) h
def lo217 : List CuI := []
theorem w217 {p0 : Nat} {g : Glob} {Qf : Out → Glob → Prop} 
  (h : EvF TT 106 [.ptr (some (p0, 0))] g fun out g' => Ou (fun x => Qf (.panic x) g') (fun v => ∃ x, Ha TT 43 x ∧ v = .d x ∧ Br (intOf (fld x 0) == 1) (EvF TT 108 [.ptr (some (p0, 0)), .int .i64 (intOf (fld x 0))] g' fun out g' => Ou (fun x => Qf (.panic x) g') (fun v => ∃ s, s.length.le 1099511627776 ∧ v = .d (.str s) ∧ Qf (.val (.d (.agg [.int .i64 (intOf (.int .i64 2)), .str s, .int .i64 (intOf (.int .i64 0)), .nil, .int .i64 (intOf (.int .i64 (intOf (fld x 3))))]))) g') out) (Br (intOf (fld x 0) == 2) (EvF TT 108 [.ptr (some (p0, 0)), .int .i64 (intOf (fld x 0))] g' fun out g' => Ou (fun x => Qf (.panic x) g') (fun v => ∃ s, s.length.le 1099511627776 ∧ v = .d (.str s) ∧ Qf (.val (.d (.agg [.int .i64 (intOf (.int .i64 4)), .str s, .int .i64 (intOf (.int .i64 0)), .nil, .int .i64 (intOf (.int .i64 (intOf (fld x 3))))]))) g') out) (Br (intOf (fld x 0) == 4) (∃ n, GOk TT 3 g' p0 1 (.int .i64 n) ∧ GPut g' p0 1 1 ∧ Qf (.val (.d (.agg [.int .i64 (intOf (.int .i64 3)), .str [], .int .i64 (intOf (.int .i64 (intOf (fld x 2)))), .nil, .int .i64 (intOf (.int .i64 (intOf (fld x 3))))]))) (gp g' p0 1 (.int .i64 (IntKind.i64.wrap (n + 1))))) (EvF TT 111 [.ptr (some (p0, 0)), .str [95]] g' fun out g' => Ou (fun x => Qf (.panic x) g') (fun v => ∃ b, v = .d (.bool b) ∧ Br b (Qf (.val (.d (.agg [.int .i64 (intOf (.int .i64 1)), .str [], .int .i64 (intOf (.int .i64 0)), .nil, .int .i64 (intOf (.int .i64 (intOf (fld x 3))))]))) g') (EvF TT 107 [.ptr (some (p0, 0)), .str [40]] g' fun out g' => Ou (fun x => Qf (.panic x) g') (fun v => Rt v [] ∧ ∃ n, GOk TT 3 g' p0 3 (.int .i64 n) ∧ Br (decide (0 ≤ n)) (Qf (.val (.d (.agg [.int .i64 0, .str [], .int .i64 0, .nil, .int .i64 0]))) g') (EvF TT 189 [.ptr (some (p0, 0))] g' fun out g' => Ou (fun x => Qf (.panic x) g') (fun v => ∃ x, Ha TT 127 x ∧ v = .d x ∧ EvF TT 107 [.ptr (some (p0, 0)), .str [41]] g' fun out g' => Ou (fun x => Qf (.panic x) g') (fun v => Rt v [] ∧ Qf (.val (.d (.agg [.int .i64 (intOf (fld x 0)), .str (strOf (fld x 1)), .int .i64 (intOf (fld x 2)), fld x 3, .int .i64 (intOf (fld x 4))]))) g') out) out)) out)) out)))) out) :
  EvF TT 217 [.ptr (some (p0, 0))] g Qf :=
 su (rk := rk) (fn := Tryz.f217) (loops := lo217) (joins := []) (n := 100000) (args := [(71, .ptr (some (p0, 0)))]) rfl rfl rfl rfl ⟨tyt rfl, trivial⟩ (by kernel_rfl) h
def lo218 : List CuI := []
theorem w218 {p0 : Nat} {g : Glob} {Qf : Out → Glob → Prop} 
  (h : EvF TT 106 [.ptr (some (p0, 0))] g fun out g' => Ou (fun x => Qf (.panic x) g') (fun v => ∃ x, Ha TT 43 x ∧ v = .d x ∧ Br (intOf (fld x 0) == 1) (Qf (.val (.d (.bool true))) g') (Br (intOf (fld x 0) == 4) (Qf (.val (.d (.bool true))) g') (Br (intOf (fld x 0) == 2) (Qf (.val (.d (.bool true))) g') (EvF TT 48 [.ptr (some (p0, 0)), .str [40]] g' fun out g' => Ou (fun x => Qf (.panic x) g') (fun v => ∃ b, v = .d (.bool b) ∧ Qf (.val (.d (.bool b))) g') out)))) out) :
  EvF TT 218 [.ptr (some (p0, 0))] g Qf :=
 su (rk := rk) (fn := Tryz.f218) (loops := lo218) (joins := []) (n := 100000) (args := [(71, .ptr (some (p0, 0)))]) rfl rfl rfl rfl ⟨tyt rfl, trivial⟩ (by kernel_rfl) h
def lo219 : List CuI := []
theorem w219 {p0 : Nat} {g : Glob} {Qf : Out → Glob → Prop} 
  (h : EvF TT 106 [.ptr (some (p0, 0))] g fun out g' => Ou (fun x => Qf (.panic x) g') (fun v => ∃ x, Ha TT 43 x ∧ v = .d x ∧ Br (intOf (fld x 0) == 1) (EvF TT 108 [.ptr (some (p0, 0)), .int .i64 (intOf (fld x 0))] g' fun out g' => Ou (fun x => Qf (.panic x) g') (fun v => ∃ s, s.length.le 1099511627776 ∧ v = .d (.str s) ∧ Qf (.val (.d (.agg [.int .i64 (intOf (.int .i64 1)), .str s, .str [], .int .i64 (intOf (.int .i64 0)), .nil, .nil, .int .i64 (intOf (.int .i64 (intOf (fld x 3))))]))) g') out) (Br (intOf (fld x 0) == 2) (EvF TT 108 [.ptr (some (p0, 0)), .int .i64 (intOf (fld x 0))] g' fun out g' => Ou (fun x => Qf (.panic x) g') (fun v => ∃ s, s.length.le 1099511627776 ∧ v = .d (.str s) ∧ Qf (.val (.d (.agg [.int .i64 (intOf (.int .i64 8)), .str s, .str [], .int .i64 (intOf (.int .i64 0)), .nil, .nil, .int .i64 (intOf (.int .i64 (intOf (fld x 3))))]))) g') out) (Br (intOf (fld x 0) == 4) (∃ n, GOk TT 3 g' p0 1 (.int .i64 n) ∧ GPut g' p0 1 1 ∧ Qf (.val (.d (.agg [.int .i64 (intOf (.int .i64 2)), .str [], .str [], .int .i64 (intOf (.int .i64 (intOf (fld x 2)))), .nil, .nil, .int .i64 (intOf (.int .i64 (intOf (fld x 3))))]))) (gp g' p0 1 (.int .i64 (IntKind.i64.wrap (n + 1))))) (EvF TT 107 [.ptr (some (p0, 0)), .str [40]] g' fun out g' => Ou (fun x => Qf (.panic x) g') (fun v => Rt v [] ∧ ∃ n, GOk TT 3 g' p0 3 (.int .i64 n) ∧ Br (decide (0 ≤ n)) (Qf (.val (.d (.agg [.int .i64 0, .str [], .str [], .int .i64 0, .nil, .nil, .int .i64 0]))) g') (EvF TT 50 [.ptr (some (p0, 0))] g' fun out g' => Ou (fun x => Qf (.panic x) g') (fun v => ∃ x, Ha TT 27 x ∧ v = .d x ∧ EvF TT 107 [.ptr (some (p0, 0)), .str [41]] g' fun out g' => Ou (fun x => Qf (.panic x) g') (fun v => Rt v [] ∧ Qf (.val (.d (.agg [.int .i64 (intOf (fld x 0)), .str (strOf (fld x 1)), .str (strOf (fld x 2)), .int .i64 (intOf (fld x 3)), fld x 4, fld x 5, .int .i64 (intOf (fld x 6))]))) g') out) out)) out)))) out) :
  EvF TT 219 [.ptr (some (p0, 0))] g Qf :=
 su (rk := rk) (fn := Tryz.f219) (loops := lo219) (joins := []) (n := 100000) (args := [(71, .ptr (some (p0, 0)))]) rfl rfl rfl rfl ⟨tyt rfl, trivial⟩ (by kernel_rfl) h
end Go.Proofs.YtgmapdcdmomioaaGreatDoor.Pa
namespace Go.Proofs.YtgmapdcdmomioaaGreatDoor.Pa
open Go Go.Proofs.YtgmapdcdmomioaaGreatDoor.Am
variable {V : Env} {g g0 g1 : Glob} {r : List Pk} {Qf Qi : Out → Glob → Prop} {α β γ : Type} {f : Option Int}
def plO : Option Int → Int
 | none => -1
 | some p => p
def rBox (V : Env) (n : Nat) (f : Option Int) : GBox := .cells [.d V.x, .d (.int .i64 n), .d (.int .i64 V.en), .d (.int .i64 (plO f))]
def RS (V : Env) (g : Glob) (f : Option Int) (r : List Pk) : Prop := (∃ pre, V.ts = pre ++ r ∧ g.boxes[V.p]? = some (rBox V pre.length f)) ∧ ∀ p, f = some p → r = [] ∧ 0 ≤ p
theorem RS.len (hV : V.Ok) (h : RS V g f r) : r.length ≤ 4096 := by
 obtain ⟨⟨pre, e, _⟩, _⟩ := h
 have := hV.len
 rw [e, List.length_append] at this
 omega
theorem RS.goo (hV : V.Ok) (h : RS V g f r) : ∀ t ∈ r, GoodTk t := by
 obtain ⟨⟨pre, e, _⟩, _⟩ := h
 exact fun t ht => hV.good t (by rw [e]; exact List.mem_append_right _ ht)
theorem RS.bx (h : RS V g f r) (e : g1.boxes = g.boxes) : RS V g1 f r := by
 obtain ⟨⟨pre, e1, e2⟩, h2⟩ := h
 exact ⟨⟨pre, e1, by rw [e]; exact e2⟩, h2⟩
theorem RS.tok {m n : Nat} (h : RS V g f r) : RS V (gto g m n) f r := h
theorem rhd_ty (hV : V.Ok) (h : RS V g f r) : Ha TT 43 (hdD V r) := ty_tok (tK (h.goo hV))
theorem rtoken (hV : V.Ok) (h : RS V g f r) (hQ : Qf (.val (.d (hdD V r))) g) : EvF TT 106 [.ptr (some (V.p, 0))] g Qf := by
 have hlen := hV.len
 obtain ⟨⟨pre, e, hb⟩, _⟩ := h
 refine w106 ⟨pre.length, gokInt hb rfl, V.x, hV.ty, gok undToks sizeToks rfl hb rfl, Bi.2 ⟨fun q => ?_, fun q => ?_⟩⟩
 ·have q := of_decide_eq_true q
  rw [hV.els, List.length_map] at q
  refine ⟨V.x, hV.ty, gok undToks sizeToks rfl hb rfl, pre.length, gokInt hb rfl, ?_, ?_⟩
  ·rw [hV.els, List.length_map]
   exact inB (by omega)
  ·cases r with
   | nil => rw [e, List.append_nil] at q; omega
   | cons t r =>
    have : gtE (elO V.x) (pre.length : Int) = pkD t := by
     rw [hV.els, e, geE (by simp)]
     simp
    rw [this]
    exact hQ
 ·have q := of_decide_eq_false q
  rw [hV.els, List.length_map] at q
  refine ⟨V.en, gokInt hb rfl, ?_⟩
  cases r with
  | nil => exact hQ
  | cons t r => rw [e, List.length_append, List.length_cons] at q; omega
theorem rplace (h : RS V g f r) : GOk TT 3 g V.p 3 (.int .i64 (plO f)) := by
 obtain ⟨⟨pre, e, hb⟩, _⟩ := h
 exact gokInt hb rfl
theorem rgo (h : RS V g none r) {A B : Prop} (hA : A) : ∃ n, GOk TT 3 g V.p 3 (.int .i64 n) ∧ Br (decide (n < 0)) A B := ⟨_, rplace h, Bo rfl hA⟩
theorem rstop {p : Int} (h : RS V g (some p) r) {A B : Prop} (hB : B) : ∃ n, GOk TT 3 g V.p 3 (.int .i64 n) ∧ Br (decide (n < 0)) A B :=
 ⟨_, rplace h, Brn (decide_eq_false (by have := (h.2 p rfl).2; show ¬ p < 0; omega)) hB⟩
theorem rgo' (h : RS V g none r) {A B : Prop} (hB : B) : ∃ n, GOk TT 3 g V.p 3 (.int .i64 n) ∧ Br (decide (0 ≤ n)) A B := ⟨_, rplace h, Brn rfl hB⟩
theorem rstop' {p : Int} (h : RS V g (some p) r) {A B : Prop} (hA : A) : ∃ n, GOk TT 3 g V.p 3 (.int .i64 n) ∧ Br (decide (0 ≤ n)) A B :=
 ⟨_, rplace h, Bo (decide_eq_true (h.2 p rfl).2) hA⟩
theorem radv (hV : V.Ok) (h : RS V g f r) (hr : r ≠ []) : ∃ n g', GOk TT 3 g V.p 1 (.int .i64 n) ∧ GPut g V.p 1 1 ∧ gp g V.p 1 (.int .i64 (IntKind.i64.wrap (n + 1))) = g' ∧ RS V g' f r.tail ∧ Nx V g g' := by
 obtain ⟨⟨pre, e, hb⟩, hf⟩ := h
 have hlen := hV.len
 have hlt : V.p < g.boxes.length := (List.getElem?_eq_some_iff.1 hb).1
 cases r with
 | nil => exact absurd rfl hr
 | cons t r =>
  rw [e, List.length_append] at hlen
  refine ⟨pre.length, _, gokInt hb rfl, ⟨_, hb, by simp⟩, gput1 hb, ⟨⟨pre ++ [t], by rw [e, List.append_assoc]; rfl, ?_⟩, fun p hp => ?_⟩, ⟨fun i hi => ?_, [], by simp⟩⟩
  ·simp only [List.getElem?_set_self hlt]
   rw [wra (by omega), List.length_append]
   rfl
  ·cases (hf p hp).1
  ·simp only [List.getElem?_set_ne (Ne.symm hi)]
theorem pl_nonneg (hV : V.Ok) (h : ∀ t ∈ r, GoodTk t) : 0 ≤ plK V.en r := by
 cases r with
 | nil => exact hV.en0
 | cons t r => exact (h t (by simp)).pl
def badAt (V : Env) (f : Option Int) (r : List Pk) : Int := match f with | some p => p | none => plK V.en r
theorem rbad (hV : V.Ok) (h : RS V g f r) (K : ∀ g', RS V g' (some (badAt V f r)) [] → Nx V g g' → Qf (.val (.tuple [])) g') : EvF TT 51 [.ptr (some (V.p, 0))] g Qf := by
 have h0 := h
 obtain ⟨⟨pre, e, hb⟩, hf⟩ := h
 have hlt : V.p < g.boxes.length := (List.getElem?_eq_some_iff.1 hb).1
 have hlen : (elO V.x).length = V.ts.length := by rw [hV.els, List.length_map]
 cases f with
 | some p =>
  refine w51 (rstop h0 ⟨V.x, hV.ty, gok undToks sizeToks rfl hb rfl, ⟨_, hb, by simp⟩, ?_⟩)
  rw [gput1 hb, hlen]
  refine K _ ⟨⟨V.ts, by simp, ?_⟩, fun p' hp' => ⟨rfl, by cases hp'; exact (hf p rfl).2⟩⟩ ⟨fun i hi => ?_, [], by simp⟩
  ·simp only [List.getElem?_set_self hlt]
   rfl
  ·simp only [List.getElem?_set_ne (Ne.symm hi)]
 | none =>
  refine w51 (rgo h0 (rtoken hV h0 ⟨_, rhd_ty hV h0, rfl, ⟨_, hb, by simp⟩, ?_⟩))
  have e1 : gp g V.p 3 (.int .i64 (intOf (fld (hdD V r) 3))) = { g with boxes := g.boxes.set V.p (.cells [.d V.x, .d (.int .i64 pre.length), .d (.int .i64 V.en), .d (.int .i64 (plK V.en r))]) } := gput1 hb
  rw [e1]
  have hb2 : ({ g with boxes := g.boxes.set V.p (.cells [.d V.x, .d (.int .i64 pre.length), .d (.int .i64 V.en), .d (.int .i64 (plK V.en r))]) } : Glob).boxes[V.p]? = some (.cells [.d V.x, .d (.int .i64 pre.length), .d (.int .i64 V.en), .d (.int .i64 (plK V.en r))]) := List.getElem?_set_self hlt
  refine ⟨V.x, hV.ty, gok undToks sizeToks rfl hb2 rfl, ⟨_, hb2, by simp⟩, ?_⟩
  rw [gput1 hb2, hlen]
  refine K _ ⟨⟨V.ts, by simp, ?_⟩, fun p' hp' => ⟨rfl, by cases hp'; exact pl_nonneg hV (h0.goo hV)⟩⟩ ⟨fun i hi => ?_, [], by simp⟩
  ·simp only [List.set_set, List.getElem?_set_self hlt]
   rfl
  ·simp only [List.set_set, List.getElem?_set_ne (Ne.symm hi)]
def KS (k : Int) (s : Str) : Prop := (k = 5 ∧ keyB s = true) ∨ (k = 6 ∧ s ∈ sin)
theorem key_sign : ∀ s ∈ sin, keyB s = false := by decide
theorem KS.len {k : Int} {s : Str} (h : KS k s) : s.length ≤ 2 ^ 40 := by
 rcases h with ⟨_, h⟩ | ⟨_, h⟩
 ·have : ∀ s ∈ keyL, s.length ≤ 2 ^ 40 := by decide
  unfold keyB at h
  obtain ⟨x, hx, e⟩ := List.any_eq_true.1 h
  rw [← (beq_iff_eq.1 e)]
  exact this _ hx
 ·have : ∀ s ∈ sin, s.length ≤ 2 ^ 40 := by decide
  exact this _ h
theorem KS.ne {k : Int} {s : Str} (h : KS k s) : k ≠ 0 := by rcases h with ⟨h, _⟩ | ⟨h, _⟩ <;> omega
theorem ris (hV : V.Ok) (h : RS V g f r) {k : Int} {s : Str} (hk : KS k s) (hQ : Qf (.val (.d (.bool (iK k s r)))) g) : EvF TT 48 [.ptr (some (V.p, 0)), .str s] g Qf := by
 refine w48 hk.len (rtoken hV h ⟨_, rhd_ty hV h, rfl, ?_⟩)
 have hg := h.goo hV
 have h5 : kdK r = 5 → keyB (txK r) = true := by
  cases r with
  | nil => intro h; cases h
  | cons t r => exact (hg t (by simp)).key
 have h6 : kdK r = 6 → txK r ∈ sin := by
  cases r with
  | nil => intro h; cases h
  | cons t r => exact (hg t (by simp)).sign
 show Br (kdK r == 5) _ (Br (kdK r == 6) _ _)
 refine Bi.2 ⟨fun q => qcast hQ ?_, fun q => Bi.2 ⟨fun q' => qcast hQ ?_, fun q' => qcast hQ ?_⟩⟩
 ·have q0 : kdK r = 5 := by simpa using q
  show iK k s r = (txK r == s)
  rcases hk with ⟨rfl, _⟩ | ⟨rfl, hs⟩
  ·simp [iK, q0]
  ·have : txK r ≠ s := fun e => by
    have := h5 q0
    rw [e, key_sign s hs] at this
    cases this
   simp [iK, q0, this]
 ·have q0 : kdK r = 6 := by simpa using q'
  show iK k s r = (txK r == s)
  rcases hk with ⟨rfl, hs⟩ | ⟨rfl, _⟩
  ·have : txK r ≠ s := fun e => by
    have := key_sign _ (h6 q0)
    rw [e, hs] at this
    cases this
   simp [iK, q0, this]
  ·simp [iK, q0]
 ·have q0 : kdK r ≠ 5 := by simpa using q
  have q1 : kdK r ≠ 6 := by simpa using q'
  rcases hk with ⟨rfl, _⟩ | ⟨rfl, _⟩ <;> simp [iK, q0, q1]
theorem rtake (hV : V.Ok) (h : RS V g f r) {k : Int} {s : Str} (hk : KS k s) (K1 : iK k s r = true → ∀ g', RS V g' f r.tail → Nx V g g' → Qf (.val (.d (.bool true))) g') (K0 : iK k s r = false → Qf (.val (.d (.bool false))) g) : EvF TT 111 [.ptr (some (V.p, 0)), .str s] g Qf := by
 refine w111 hk.len (ris hV h hk ⟨_, rfl, Bi.2 ⟨fun q => ?_, fun q => K0 q⟩⟩)
 obtain ⟨n, g', h1, h2, h3, h4, h5⟩ := radv hV h (isK_ne hk.ne q)
 refine ⟨n, h1, h2, ?_⟩
 rw [h3]
 exact K1 q g' h4 h5
def lift {α : Type} (f : Option Int) (res : Res α) : Res α := match f with | none => res | some p => .bad p
theorem lift_bind {res : Res α} {F : α → List Pk → Res β} : lift f (res.bind F) = (lift f res).bind F := by cases f <;> rfl
def RF (V : Env) {α : Type} (ab : Dat → α) (t : TypeId) (g : Glob) (res : Res α) (Qf : Out → Glob → Prop) : Prop :=
 match res with
 | .ok v r => ∀ d g', ab d = v → Ha TT t d → RS V g' none r → Nx V g g' → Qf (.val (.d d)) g'
 | .bad p => ∀ d g', Ha TT t d → RS V g' (some p) [] → Nx V g g' → Qf (.val (.d d)) g'
 | .oof => False
variable {ab : Dat → α} {ab' : Dat → β} {t t' : TypeId}
theorem RF.call {res : Res α} {F : α → List Pk → Res β} (hQ : RF V ab' t' g0 (res.bind F) Qf) (hn : Nx V g0 g)
  (K : ∀ f' r' d g', Ha TT t d → RS V g' f' r' → Nx V g0 g' → Nx V g g' → (f' = none → res = .ok (ab d) r') → RF V ab' t' g0 (lift f' (F (ab d) r')) Qf → Qi (.val (.d d)) g') : RF V ab t g res Qi := by
 cases res with
 | ok v r => exact fun d g' h1 h2 h3 h4 => K none r d g' h2 h3 (hn.trans h4) h4 (fun _ => by rw [h1]) (by subst h1; exact hQ)
 | bad p => exact fun d g' h2 h3 h4 => K (some p) [] d g' h2 h3 (hn.trans h4) h4 (fun e => by cases e) hQ
 | oof => exact hQ
theorem RF.imp {res : Res α} (hQ : RF V ab t g0 res Qf) (hn : Nx V g0 g) (K : ∀ d g', Ha TT t d → Qf (.val (.d d)) g' → Qi (.val (.d d)) g') : RF V ab t g res Qi := by
 cases res with
 | ok v r => exact fun d g' h1 h2 h3 h4 => K d g' h2 (hQ d g' h1 h2 h3 (hn.trans h4))
 | bad p => exact fun d g' h2 h3 h4 => K d g' h2 (hQ d g' h2 h3 (hn.trans h4))
 | oof => exact hQ
theorem RF.fin {v : α} {d : Dat} (hQ : RF V ab t g0 (lift f (.ok v r)) Qf) (hv : f = none → ab d = v) (ht : Ha TT t d) (hs : RS V g f r) (hn : Nx V g0 g) : Qf (.val (.d d)) g := by
 cases f with
 | none => exact hQ d g (hv rfl) ht hs hn
 | some p =>
  have := (hs.2 p rfl).1
  subst this
  exact hQ d g ht hs hn
theorem rmust (hV : V.Ok) (h : RS V g f r) {k : Int} {s : Str} {F : Unit → List Pk → Res β} (hk : KS k s) (hQ : RF V ab' t' g0 (lift f ((need V.en k s r).bind F)) Qf) (hn : Nx V g0 g)
  (K : ∀ f' r' g', RS V g' f' r' → Nx V g0 g' → Nx V g g' → r'.length ≤ r.length → (f' = none → f = none ∧ iK k s r = true ∧ r' = r.tail) → (∀ p, f = some p → f' = some p) → RF V ab' t' g0 (lift f' (F () r')) Qf → Qi (.val (.tuple [])) g') : EvF TT 107 [.ptr (some (V.p, 0)), .str s] g Qi := by
 refine w107 hk.len (rtake hV h hk (fun q g' h1 h2 => ⟨_, rfl, Brn rfl ?_⟩) (fun q => ⟨_, rfl, Bo rfl (rbad hV h fun g' h1 h2 => ⟨trivial, ?_⟩)⟩))
 ·cases f with
  | none =>
   refine K none r.tail g' h1 (hn.trans h2) h2 (by simp) (fun _ => ⟨rfl, q, rfl⟩) (fun p e => by cases e) ?_
   unfold need at hQ
   rw [if_pos q] at hQ
   exact hQ
  | some p =>
   have := (h.2 p rfl).1
   subst this
   exact absurd rfl (isK_ne hk.ne q)
 ·cases f with
  | none =>
   refine K (some (plK V.en r)) [] g' h1 (hn.trans h2) h2 (by simp) (fun e => by cases e) (fun p e => by cases e) ?_
   unfold need at hQ
   rw [if_neg (by rw [q]; simp)] at hQ
   exact hQ
  | some p => exact K (some p) [] g' h1 (hn.trans h2) h2 (by simp) (fun e => by cases e) (fun p' e => e) hQ
theorem rword (hV : V.Ok) (h : RS V g f r) {k : Int} {F : Str → List Pk → Res β} (hk : k ≠ 0) (hQ : RF V ab' t' g0 (lift f ((word1 V.en k r).bind F)) Qf) (hn : Nx V g0 g)
  (K : ∀ f' r' s g', s.length ≤ 2 ^ 40 → RS V g' f' r' → Nx V g0 g' → Nx V g g' → r'.length ≤ r.length → (f' = none → f = none ∧ (kdK r == k) = true ∧ r' = r.tail ∧ s = txK r) → RF V ab' t' g0 (lift f' (F s r')) Qf → Qi (.val (.d (.str s))) g') : EvF TT 108 [.ptr (some (V.p, 0)), .int .i64 k] g Qi := by
 refine w108 (rtoken hV h ⟨_, rhd_ty hV h, rfl, ?_⟩)
 show Br (kdK r != k) _ _
 cases q : (kdK r == k) with
 | true =>
  refine Brn (by simp [bne, q]) ?_
  obtain ⟨n, g', h1, h2, h3, h4, h5⟩ := radv hV h (ne_nil hk q)
  refine ⟨n, h1, h2, ?_⟩
  rw [h3]
  cases f with
  | none =>
   refine K none r.tail (txK r) g' (tK (h.goo hV)) h4 (hn.trans h5) h5 (by simp) (fun _ => ⟨rfl, q, rfl, rfl⟩) ?_
   unfold word1 at hQ
   rw [if_pos q] at hQ
   exact hQ
  | some p =>
   have := (h.2 p rfl).1
   subst this
   exact absurd rfl (ne_nil hk q)
 | false =>
  refine Bo (by simp [bne, q]) (rbad hV h fun g' h1 h2 => ⟨trivial, ?_⟩)
  cases f with
  | none =>
   refine K (some (plK V.en r)) [] [] g' (by decide) h1 (hn.trans h2) h2 (by simp) (fun e => by cases e) ?_
   unfold word1 at hQ
   rw [if_neg (by rw [q]; simp)] at hQ
   exact hQ
  | some p => exact K (some p) [] [] g' (by decide) h1 (hn.trans h2) h2 (by simp) (fun e => by cases e) hQ
theorem rword' (hV : V.Ok) (h : RS V g none r) {k : Int} (hk : k ≠ 0) (q : (kdK r == k) = true) (K : ∀ g', RS V g' none r.tail → Nx V g g' → Qi (.val (.d (.str (txK r)))) g') : EvF TT 108 [.ptr (some (V.p, 0)), .int .i64 k] g Qi := by
 refine w108 (rtoken hV h ⟨_, rhd_ty hV h, rfl, ?_⟩)
 show Br (kdK r != k) _ _
 refine Brn (by simp [bne, q]) ?_
 obtain ⟨n, g', h1, h2, h3, h4, h5⟩ := radv hV h (ne_nil hk q)
 refine ⟨n, h1, h2, ?_⟩
 rw [h3]
 exact K g' h4 h5
theorem ks5 {s : Str} (h : keyB s = true := by decide) : KS 5 s := .inl ⟨rfl, h⟩
theorem ks6 {s : Str} (h : s ∈ sin := by decide) : KS 6 s := .inr ⟨rfl, h⟩
theorem rtyNext (hV : V.Ok) (h : RS V g f r) (hQ : Qf (.val (.d (.bool (tyNext r)))) g) : EvF TT 109 [.ptr (some (V.p, 0))] g Qf := by
 refine w109 (rtoken hV h ⟨_, rhd_ty hV h, rfl, ?_⟩)
 show Br (kdK r == 1) _ (Br (kdK r == 3) _ _)
 refine Bi.2 ⟨fun q => qcast hQ (by simp [tyNext, q]), fun q => Bi.2 ⟨fun q' => qcast hQ (by simp [tyNext, q']), fun q' => ris hV h (k := 6) (ks6) ⟨_, rfl, qcast hQ (by simp [tyNext, q, q', sOpen])⟩⟩⟩
theorem ratNext (hV : V.Ok) (h : RS V g f r) (hQ : Qf (.val (.d (.bool (atNext r)))) g) : EvF TT 218 [.ptr (some (V.p, 0))] g Qf := by
 refine w218 (rtoken hV h ⟨_, rhd_ty hV h, rfl, ?_⟩)
 show Br (kdK r == 1) _ (Br (kdK r == 4) _ (Br (kdK r == 2) _ _))
 refine Bi.2 ⟨fun q => qcast hQ (by simp [atNext, q]), fun q => Bi.2 ⟨fun q' => qcast hQ (by simp [atNext, q']), fun q' => Bi.2 ⟨fun q'' => qcast hQ (by simp [atNext, q'']), fun q'' => ris hV h (k := 6) (ks6) ⟨_, rfl, qcast hQ (by simp [atNext, q, q', q'', sOpen])⟩⟩⟩⟩
end Go.Proofs.YtgmapdcdmomioaaGreatDoor.Pa
