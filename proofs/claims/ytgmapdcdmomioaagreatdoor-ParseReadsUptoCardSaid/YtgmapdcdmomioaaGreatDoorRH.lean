/- A word of a kind, as the program asks it, is what the document says. What functions of the program do, printed by wip/tools/sx/sx.py. Which trees may be: the program's questions. Operations' signs, functions over slices. Which types and patterns may be: the program's tests, the document's. Which expressions may be: the program's tests, the document's. -/
import Derived.Test.YtgmapdcdmomioaaGreatDoorRG
import Derived.Test.YtgmapdcdmomioaaGreatDoorRE
set_option linter.all false
set_option autoImplicit false
set_option maxRecDepth 100000
namespace Go.Proofs.YtgmapdcdmomioaaGreatDoor.Pa
open Go Go.Proofs.YtgmapdcdmomioaaGreatDoor.Am
theorem signF_quote (s : Str) : signF (39 :: s) sin = none := by
 have key : ∀ l : List Str, (∀ x ∈ l, ∃ d t, x = d :: t ∧ d ≠ 39) → signF (39 :: s) l = none := by
  intro l
  induction l with
  | nil => intro _; rfl
  | cons x l ih =>
   intro h
   obtain ⟨d, t, rfl, hd⟩ := h x List.mem_cons_self
   unfold signF
   rw [if_neg ?_]
   ·exact ih fun y hy => h y (List.mem_cons_of_mem _ hy)
   ·rw [List.isPrefixOf_iff_prefix]
    intro hp
    rw [List.cons_prefix_cons] at hp
    exact hd hp.1
 refine key sin fun x hx => ?_
 simp only [sin, List.mem_cons, List.not_mem_nil, or_false] at hx
 rcases hx with rfl | rfl | rfl | rfl | rfl | rfl | rfl | rfl | rfl | rfl | rfl | rfl | rfl | rfl <;> exact ⟨_, _, rfl, by decide⟩
section
variable {s : Str} {g : Glob} {Qf : Out → Glob → Prop}
end
end Go.Proofs.YtgmapdcdmomioaaGreatDoor.Pa
namespace Go.Proofs.YtgmapdcdmomioaaGreatDoor.Pa
open Go Go.Proofs.YtgmapdcdmomioaaGreatDoor.Am
def L197_2 (x0 : Dat) (f1 : FuncId) (c1 : List Dat) (n7 : Int) (n8 : Int) (g : Glob) (Qf : Out → Glob → Prop) : Prop := CutP TT Tryz.f197 [1, 0, 1, 0] Qf (mkC TT 197 Tryz.f197 2 [(0, .v 25 (x0)), (1, .v 155 (.clo f1 c1)), (7, .v 3 (.int .i64 n7)), (8, .v 3 (.int .i64 n8))] [] g)
def lo197 : List CuI := [⟨2, [(0, .keep), (1, .keep), (7, .keep), (8, .keep)], []⟩]
theorem w197 {x0 : Dat} {f1 : FuncId} {c1 : List Dat} {g : Glob} {Qf : Out → Glob → Prop} (h0 : Ha TT 25 x0)
  (h : L197_2 x0 f1 c1 (↑(elO x0).length : Int) 0 g Qf) :
  EvF TT 197 [x0, .clo f1 c1] g Qf :=
 su (rk := rk) (fn := Tryz.f197) (loops := lo197) (joins := []) (n := 100000) (args := [(25, x0), (155, .clo f1 c1)]) rfl rfl rfl rfl ⟨h0, tyClo rfl, trivial⟩ (by kernel_rfl) h
theorem w197_2 {x0 : Dat} {f1 : FuncId} {c1 : List Dat} {n7 : Int} {n8 : Int} {g : Glob} {Qf : Out → Glob → Prop} 
 (h : Br (decide (n8 < n7)) (InB n8 (elO x0).length ∧ EvF TT f1 (gtE (elO x0) n8 :: c1) g fun out g' => Ou (fun x => Qf (.panic x) g') (fun v => ∃ b, v = .d (.bool b) ∧ Br b (Qf (.val (.d (.int .i64 n8))) g') (L197_2 x0 f1 c1 n7 (IntKind.i64.wrap (n8 + 1)) g' Qf)) out) (Qf (.val (.d (.int .i64 (-1)))) g)) :
 L197_2 x0 f1 c1 n7 n8 g Qf := sxc (rk := rk) (loops := lo197) (joins := []) (n := 100000) (by kernel_rfl) h
def lo130 : List CuI := []
theorem w130 {x0 : Dat} {f1 : FuncId} {c1 : List Dat} {g : Glob} {Qf : Out → Glob → Prop} (h0 : Ha TT 25 x0)
  (h : EvF TT 197 [x0, .clo f1 c1] g fun out g' => Ou (fun x => Qf (.panic x) g') (fun v => ∃ n, v = .d (.int .i64 n) ∧ Qf (.val (.d (.bool (decide (0 ≤ n))))) g') out) :
  EvF TT 130 [x0, .clo f1 c1] g Qf :=
 su (rk := rk) (fn := Tryz.f130) (loops := lo130) (joins := []) (n := 100000) (args := [(25, x0), (155, .clo f1 c1)]) rfl rfl rfl rfl ⟨h0, tyClo rfl, trivial⟩ (by kernel_rfl) h
def L199_2 (x0 : Dat) (f1 : FuncId) (c1 : List Dat) (n7 : Int) (n8 : Int) (g : Glob) (Qf : Out → Glob → Prop) : Prop := CutP TT Tryz.f199 [1, 0, 1, 0] Qf (mkC TT 199 Tryz.f199 2 [(0, .v 24 (x0)), (1, .v 59 (.clo f1 c1)), (7, .v 3 (.int .i64 n7)), (8, .v 3 (.int .i64 n8))] [] g)
def lo199 : List CuI := [⟨2, [(0, .keep), (1, .keep), (7, .keep), (8, .keep)], []⟩]
theorem w199 {x0 : Dat} {f1 : FuncId} {c1 : List Dat} {g : Glob} {Qf : Out → Glob → Prop} (h0 : Ha TT 24 x0)
  (h : L199_2 x0 f1 c1 (↑(elO x0).length : Int) 0 g Qf) :
  EvF TT 199 [x0, .clo f1 c1] g Qf :=
 su (rk := rk) (fn := Tryz.f199) (loops := lo199) (joins := []) (n := 100000) (args := [(24, x0), (59, .clo f1 c1)]) rfl rfl rfl rfl ⟨h0, tyClo rfl, trivial⟩ (by kernel_rfl) h
theorem w199_2 {x0 : Dat} {f1 : FuncId} {c1 : List Dat} {n7 : Int} {n8 : Int} {g : Glob} {Qf : Out → Glob → Prop} 
 (h : Br (decide (n8 < n7)) (InB n8 (elO x0).length ∧ EvF TT f1 (gtE (elO x0) n8 :: c1) g fun out g' => Ou (fun x => Qf (.panic x) g') (fun v => ∃ b, v = .d (.bool b) ∧ Br b (Qf (.val (.d (.int .i64 n8))) g') (L199_2 x0 f1 c1 n7 (IntKind.i64.wrap (n8 + 1)) g' Qf)) out) (Qf (.val (.d (.int .i64 (-1)))) g)) :
 L199_2 x0 f1 c1 n7 n8 g Qf := sxc (rk := rk) (loops := lo199) (joins := []) (n := 100000) (by kernel_rfl) h
def lo133 : List CuI := []
theorem w133 {x0 : Dat} {f1 : FuncId} {c1 : List Dat} {g : Glob} {Qf : Out → Glob → Prop} (h0 : Ha TT 24 x0)
  (h : EvF TT 199 [x0, .clo f1 c1] g fun out g' => Ou (fun x => Qf (.panic x) g') (fun v => ∃ n, v = .d (.int .i64 n) ∧ Qf (.val (.d (.bool (decide (0 ≤ n))))) g') out) :
  EvF TT 133 [x0, .clo f1 c1] g Qf :=
 su (rk := rk) (fn := Tryz.f133) (loops := lo133) (joins := []) (n := 100000) (args := [(24, x0), (59, .clo f1 c1)]) rfl rfl rfl rfl ⟨h0, tyClo rfl, trivial⟩ (by kernel_rfl) h
def lo184 : List CuI := []
theorem w184 {x0 : Dat} {g : Glob} {Qf : Out → Glob → Prop} (h0 : Ha TT 127 x0)
  (h : Br (decide ((↑(elO (fld x0 3)).length : Int) ≤ 8)) (EvF TT 130 [fld x0 3, .clo 215 []] g fun out g' => Ou (fun x => Qf (.panic x) g') (fun v => ∃ b, v = .d (.bool b) ∧ Qf (.val (.d (.bool !b))) g') out) (Qf (.val (.d (.bool false))) g)) :
  EvF TT 184 [x0] g Qf :=
 su (rk := rk) (fn := Tryz.f184) (loops := lo184) (joins := []) (n := 100000) (args := [(127, x0)]) rfl rfl rfl rfl ⟨h0, trivial⟩ (by kernel_rfl) h
def lo215 : List CuI := []
theorem w215 {x0 : Dat} {g : Glob} {Qf : Out → Glob → Prop} (h0 : Ha TT 127 x0)
  (h : EvF TT 184 [x0] g fun out g' => Ou (fun x => Qf (.panic x) g') (fun v => ∃ b, v = .d (.bool b) ∧ Qf (.val (.d (.bool !b))) g') out) :
  EvF TT 215 [x0] g Qf :=
 su (rk := rk) (fn := Tryz.f215) (loops := lo215) (joins := []) (n := 100000) (args := [(127, x0)]) rfl rfl rfl rfl ⟨h0, trivial⟩ (by kernel_rfl) h
def lo183 : List CuI := []
theorem w183 {x0 : Dat} {g : Glob} {Qf : Out → Glob → Prop} (h0 : Ha TT 127 x0)
  (h : EvF TT 184 [x0] g fun out g' => Ou (fun x => Qf (.panic x) g') (fun v => ∃ b, v = .d (.bool b) ∧ Qf (.val (.d (.bool !b))) g') out) :
  EvF TT 183 [x0] g Qf :=
 su (rk := rk) (fn := Tryz.f183) (loops := lo183) (joins := []) (n := 100000) (args := [(127, x0)]) rfl rfl rfl rfl ⟨h0, trivial⟩ (by kernel_rfl) h
def lo103 : List CuI := []
theorem w103 {x0 : Dat} {g : Glob} {Qf : Out → Glob → Prop} (h0 : Ha TT 27 x0)
  (h : Br (intOf (fld x0 0) == 8) (Br (decide (8 < (↑(elO (fld x0 4)).length : Int))) (Qf (.val (.d (.bool false))) g) (EvF TT 130 [fld x0 5, .clo 183 []] g fun out g' => Ou (fun x => Qf (.panic x) g') (fun v => ∃ b, v = .d (.bool b) ∧ Br (!b) (EvF TT 133 [fld x0 4, .clo 185 []] g' fun out g' => Ou (fun x => Qf (.panic x) g') (fun v => ∃ b, v = .d (.bool b) ∧ Qf (.val (.d (.bool !b))) g') out) (Qf (.val (.d (.bool false))) g')) out)) (EvF TT 130 [fld x0 5, .clo 183 []] g fun out g' => Ou (fun x => Qf (.panic x) g') (fun v => ∃ b, v = .d (.bool b) ∧ Br (!b) (EvF TT 133 [fld x0 4, .clo 185 []] g' fun out g' => Ou (fun x => Qf (.panic x) g') (fun v => ∃ b, v = .d (.bool b) ∧ Qf (.val (.d (.bool !b))) g') out) (Qf (.val (.d (.bool false))) g')) out)) :
  EvF TT 103 [x0] g Qf :=
 su (rk := rk) (fn := Tryz.f103) (loops := lo103) (joins := []) (n := 100000) (args := [(27, x0)]) rfl rfl rfl rfl ⟨h0, trivial⟩ (by kernel_rfl) h
def lo185 : List CuI := []
theorem w185 {x0 : Dat} {g : Glob} {Qf : Out → Glob → Prop} (h0 : Ha TT 27 x0)
  (h : EvF TT 103 [x0] g fun out g' => Ou (fun x => Qf (.panic x) g') (fun v => ∃ b, v = .d (.bool b) ∧ Qf (.val (.d (.bool !b))) g') out) :
  EvF TT 185 [x0] g Qf :=
 su (rk := rk) (fn := Tryz.f185) (loops := lo185) (joins := []) (n := 100000) (args := [(27, x0)]) rfl rfl rfl rfl ⟨h0, trivial⟩ (by kernel_rfl) h
def L192_4 (n3 : Int) (y1 : Dat) (g : Glob) (Qf : Out → Glob → Prop) : Prop := CutP TT Tryz.f192 [1, 1, 0, 1, 0] Qf (mkC TT 192 Tryz.f192 1 [(1, .loc 1 0 0), (3, .v 3 (.int .i64 n3))] [(1, .whole 127 y1)] g)
def lo192 : List CuI := [⟨4, [(1, .keep), (3, .keep)], [(1, .whole 127)]⟩]
theorem w192 {x0 : Dat} {g : Glob} {Qf : Out → Glob → Prop} (h0 : Ha TT 127 x0)
  (h : Br (intOf (fld x0 0) == 4) (Br (decide (8 < (↑(elO (fld x0 3)).length : Int))) (Qf (.val (.d (.bool true))) g) (L192_4 0 x0 g Qf)) (L192_4 0 x0 g Qf)) :
  EvF TT 192 [x0] g Qf :=
 su (rk := rk) (fn := Tryz.f192) (loops := lo192) (joins := []) (n := 100000) (args := [(127, x0)]) rfl rfl rfl rfl ⟨h0, trivial⟩ (by kernel_rfl) h
theorem w192_4 {n3 : Int} {y1 : Dat} {g : Glob} {Qf : Out → Glob → Prop} 
 (h : Br (decide (n3 < (↑(elO (fld y1 3)).length : Int))) (InB n3 (elO (fld y1 3)).length ∧ EvF TT 192 [gtE (elO (fld y1 3)) n3] g fun out g' => Ou (fun x => Qf (.panic x) g') (fun v => ∃ b, v = .d (.bool b) ∧ Br b (Qf (.val (.d (.bool true))) g') (L192_4 (IntKind.i64.wrap (n3 + 1)) y1 g' Qf)) out) (Qf (.val (.d (.bool false))) g)) :
 L192_4 n3 y1 g Qf := sxc (rk := rk) (loops := lo192) (joins := []) (n := 100000) (by kernel_rfl) h
def L114_4 (n3 : Int) (y1 : Dat) (g : Glob) (Qf : Out → Glob → Prop) : Prop := CutP TT Tryz.f114 [1, 1, 0, 1, 0] Qf (mkC TT 114 Tryz.f114 1 [(1, .loc 1 0 0), (3, .v 3 (.int .i64 n3))] [(1, .whole 27 y1)] g)
def L114_9 (n4 : Int) (y1 : Dat) (g : Glob) (Qf : Out → Glob → Prop) : Prop := CutP TT Tryz.f114 [1, 1, 1, 0, 1, 0] Qf (mkC TT 114 Tryz.f114 1 [(1, .loc 1 0 0), (4, .v 3 (.int .i64 n4))] [(1, .whole 27 y1)] g)
def lo114 : List CuI := [⟨4, [(1, .keep), (3, .keep)], [(1, .whole 27)]⟩, ⟨9, [(1, .keep), (4, .keep)], [(1, .whole 27)]⟩]
theorem w114 {x0 : Dat} {g : Glob} {Qf : Out → Glob → Prop} (h0 : Ha TT 27 x0)
  (h : Br (intOf (fld x0 0) == 8) (Br (decide (8 < (↑(elO (fld x0 4)).length : Int))) (Qf (.val (.d (.bool true))) g) (L114_4 0 x0 g Qf)) (L114_4 0 x0 g Qf)) :
  EvF TT 114 [x0] g Qf :=
 su (rk := rk) (fn := Tryz.f114) (loops := lo114) (joins := []) (n := 100000) (args := [(27, x0)]) rfl rfl rfl rfl ⟨h0, trivial⟩ (by kernel_rfl) h
theorem w114_4 {n3 : Int} {y1 : Dat} {g : Glob} {Qf : Out → Glob → Prop} 
 (h : Br (decide (n3 < (↑(elO (fld y1 5)).length : Int))) (InB n3 (elO (fld y1 5)).length ∧ EvF TT 192 [gtE (elO (fld y1 5)) n3] g fun out g' => Ou (fun x => Qf (.panic x) g') (fun v => ∃ b, v = .d (.bool b) ∧ Br b (Qf (.val (.d (.bool true))) g') (L114_4 (IntKind.i64.wrap (n3 + 1)) y1 g' Qf)) out) (L114_9 0 y1 g Qf)) :
 L114_4 n3 y1 g Qf := sxc (rk := rk) (loops := lo114) (joins := []) (n := 100000) (by kernel_rfl) h
theorem w114_9 {n4 : Int} {y1 : Dat} {g : Glob} {Qf : Out → Glob → Prop} 
 (h : Br (decide (n4 < (↑(elO (fld y1 4)).length : Int))) (InB n4 (elO (fld y1 4)).length ∧ EvF TT 114 [gtE (elO (fld y1 4)) n4] g fun out g' => Ou (fun x => Qf (.panic x) g') (fun v => ∃ b, v = .d (.bool b) ∧ Br b (Qf (.val (.d (.bool true))) g') (L114_9 (IntKind.i64.wrap (n4 + 1)) y1 g' Qf)) out) (Qf (.val (.d (.bool false))) g)) :
 L114_9 n4 y1 g Qf := sxc (rk := rk) (loops := lo114) (joins := []) (n := 100000) (by kernel_rfl) h
def L47_4 (x30 : Dat) (n31 : Int) (n32 : Int) (y1 : Dat) (g : Glob) (Qf : Out → Glob → Prop) : Prop := CutP TT Tryz.f47 [1, 1, 0, 1, 0] Qf (mkC TT 47 Tryz.f47 1 [(1, .loc 1 0 0), (30, .v 23 (x30)), (31, .v 3 (.int .i64 n31)), (32, .v 3 (.int .i64 n32))] [(1, .whole 29 y1)] g)
def L47_9 (x30 : Dat) (n31 : Int) (n32 : Int) (x47 : Dat) (n48 : Int) (n49 : Int) (y1 : Dat) (g : Glob) (Qf : Out → Glob → Prop) : Prop := CutP TT Tryz.f47 [1, 1, 0, 1, 0, 0, 1, 1, 0, 0, 1, 1, 1, 0] Qf (mkC TT 47 Tryz.f47 1 [(1, .loc 1 0 0), (30, .v 23 (x30)), (31, .v 3 (.int .i64 n31)), (32, .v 3 (.int .i64 n32)), (47, .v 74 (x47)), (48, .v 3 (.int .i64 n48)), (49, .v 3 (.int .i64 n49))] [(1, .whole 29 y1)] g)
def L47_17 (n7 : Int) (x63 : Dat) (n64 : Int) (n65 : Int) (g : Glob) (Qf : Out → Glob → Prop) : Prop := CutP TT Tryz.f47 [1, 1, 1, 1, 0, 1, 0] Qf (mkC TT 47 Tryz.f47 1 [(7, .v 3 (.int .i64 n7)), (63, .v 23 (x63)), (64, .v 3 (.int .i64 n64)), (65, .v 3 (.int .i64 n65))] [] g)
def L47_20 (n7 : Int) (x63 : Dat) (n64 : Int) (n65 : Int) (x70 : Dat) (n71 : Int) (n72 : Int) (g : Glob) (Qf : Out → Glob → Prop) : Prop := CutP TT Tryz.f47 [1, 1, 1, 1, 0, 1, 0, 0, 1, 1, 0, 0, 1, 1, 0] Qf (mkC TT 47 Tryz.f47 1 [(7, .v 3 (.int .i64 n7)), (63, .v 23 (x63)), (64, .v 3 (.int .i64 n64)), (65, .v 3 (.int .i64 n65)), (70, .v 74 (x70)), (71, .v 3 (.int .i64 n71)), (72, .v 3 (.int .i64 n72))] [] g)
def L47_23 (n7 : Int) (x63 : Dat) (n64 : Int) (n65 : Int) (x70 : Dat) (n71 : Int) (n72 : Int) (x77 : Dat) (n78 : Int) (n79 : Int) (g : Glob) (Qf : Out → Glob → Prop) : Prop := CutP TT Tryz.f47 [1, 1, 1, 1, 0, 1, 0, 0, 1, 1, 0, 0, 1, 1, 0, 0, 1, 1, 0, 0, 1, 1, 0] Qf (mkC TT 47 Tryz.f47 1 [(7, .v 3 (.int .i64 n7)), (63, .v 23 (x63)), (64, .v 3 (.int .i64 n64)), (65, .v 3 (.int .i64 n65)), (70, .v 74 (x70)), (71, .v 3 (.int .i64 n71)), (72, .v 3 (.int .i64 n72)), (77, .v 89 (x77)), (78, .v 3 (.int .i64 n78)), (79, .v 3 (.int .i64 n79))] [] g)
def lo47 : List CuI := [⟨4, [(1, .keep), (30, .keep), (31, .keep), (32, .keep)], [(1, .whole 29)]⟩, ⟨9, [(1, .keep), (30, .keep), (31, .keep), (32, .keep), (47, .keep), (48, .keep), (49, .keep)], [(1, .whole 29)]⟩, ⟨17, [(7, .keep), (63, .keep), (64, .keep), (65, .keep)], []⟩, ⟨20, [(7, .keep), (63, .keep), (64, .keep), (65, .keep), (70, .keep), (71, .keep), (72, .keep)], []⟩, ⟨23, [(7, .keep), (63, .keep), (64, .keep), (65, .keep), (70, .keep), (71, .keep), (72, .keep), (77, .keep), (78, .keep), (79, .keep)], []⟩]
theorem w47 {x0 : Dat} {g : Glob} {Qf : Out → Glob → Prop} (h0 : Ha TT 29 x0)
  (h : Br (decide (32 < (↑(elO (fld x0 0)).length : Int))) (Qf (.val (.d (.int .i64 3))) g) (EvF TT 26 [x0] g fun out g' => Ou (fun x => Qf (.panic x) g') (fun v => ∃ n, v = .d (.int .i64 n) ∧ Br (decide (2048 < n)) (Qf (.val (.d (.int .i64 3))) g') (EvF TT 103 [sub x0 1 7] g' fun out g' => Ou (fun x => Qf (.panic x) g') (fun v => ∃ b, v = .d (.bool b) ∧ Br (!b) (Qf (.val (.d (.int .i64 3))) g') (L47_4 (fld x0 0) (↑(elO (fld x0 0)).length : Int) 0 x0 g' Qf)) out)) out)) :
  EvF TT 47 [x0] g Qf :=
 su (rk := rk) (fn := Tryz.f47) (loops := lo47) (joins := []) (n := 100000) (args := [(29, x0)]) rfl rfl rfl rfl ⟨h0, trivial⟩ (by kernel_rfl) h
theorem w47_4 {x30 : Dat} {n31 : Int} {n32 : Int} {y1 : Dat} {g : Glob} {Qf : Out → Glob → Prop} 
 (h : Br (decide (n32 < n31)) (InB n32 (elO x30).length ∧ Br (decide (4 < (↑(elO (fld (gtE (elO x30) n32) 1)).length : Int))) (Qf (.val (.d (.int .i64 3))) g) (Br (decide (32 < (↑(elO (fld (gtE (elO x30) n32) 2)).length : Int))) (Qf (.val (.d (.int .i64 3))) g) (L47_9 x30 n31 n32 (fld (gtE (elO x30) n32) 2) (↑(elO (fld (gtE (elO x30) n32) 2)).length : Int) 0 y1 g Qf))) (EvF TT 104 [sub y1 1 7] g fun out g' => Ou (fun x => Qf (.panic x) g') (fun v => ∃ n, v = .d (.int .i64 n) ∧ L47_17 n (fld y1 0) (↑(elO (fld y1 0)).length : Int) 0 g' Qf) out)) :
 L47_4 x30 n31 n32 y1 g Qf := sxc (rk := rk) (loops := lo47) (joins := []) (n := 100000) (by kernel_rfl) h
theorem w47_9 {x30 : Dat} {n31 : Int} {n32 : Int} {x47 : Dat} {n48 : Int} {n49 : Int} {y1 : Dat} {g : Glob} {Qf : Out → Glob → Prop} 
 (h : Br (decide (n49 < n48)) (InB n49 (elO x47).length ∧ Br (decide (8 < (↑(elO (fld (gtE (elO x47) n49) 1)).length : Int))) (Qf (.val (.d (.int .i64 3))) g) (L47_9 x30 n31 n32 x47 n48 (IntKind.i64.wrap (n49 + 1)) y1 g Qf)) (L47_4 x30 n31 (IntKind.i64.wrap (n32 + 1)) y1 g Qf)) :
 L47_9 x30 n31 n32 x47 n48 n49 y1 g Qf := sxc (rk := rk) (loops := lo47) (joins := []) (n := 100000) (by kernel_rfl) h
theorem w47_17 {n7 : Int} {x63 : Dat} {n64 : Int} {n65 : Int} {g : Glob} {Qf : Out → Glob → Prop} 
 (h : Br (decide (n65 < n64)) (InB n65 (elO x63).length ∧ L47_20 n7 x63 n64 n65 (fld (gtE (elO x63) n65) 2) (↑(elO (fld (gtE (elO x63) n65) 2)).length : Int) 0 g Qf) (Br (decide (256 < n7)) (Qf (.val (.d (.int .i64 4))) g) (Qf (.val (.d (.int .i64 0))) g))) :
 L47_17 n7 x63 n64 n65 g Qf := sxc (rk := rk) (loops := lo47) (joins := []) (n := 100000) (by kernel_rfl) h
theorem w47_20 {n7 : Int} {x63 : Dat} {n64 : Int} {n65 : Int} {x70 : Dat} {n71 : Int} {n72 : Int} {g : Glob} {Qf : Out → Glob → Prop} 
 (h : Br (decide (n72 < n71)) (InB n72 (elO x70).length ∧ L47_23 n7 x63 n64 n65 x70 n71 n72 (fld (gtE (elO x70) n72) 1) (↑(elO (fld (gtE (elO x70) n72) 1)).length : Int) 0 g Qf) (L47_17 n7 x63 n64 (IntKind.i64.wrap (n65 + 1)) g Qf)) :
 L47_20 n7 x63 n64 n65 x70 n71 n72 g Qf := sxc (rk := rk) (loops := lo47) (joins := []) (n := 100000) (by kernel_rfl) h
theorem w47_23 {n7 : Int} {x63 : Dat} {n64 : Int} {n65 : Int} {x70 : Dat} {n71 : Int} {n72 : Int} {x77 : Dat} {n78 : Int} {n79 : Int} {g : Glob} {Qf : Out → Glob → Prop} 
 (h : Br (decide (n79 < n78)) (InB n79 (elO x77).length ∧ EvF TT 105 [gtE (elO x77) n79] g fun out g' => Ou (fun x => Qf (.panic x) g') (fun v => ∃ n, v = .d (.int .i64 n) ∧ L47_23 (maxS true n7 n) x63 n64 n65 x70 n71 n72 x77 n78 (IntKind.i64.wrap (n79 + 1)) g' Qf) out) (L47_20 n7 x63 n64 n65 x70 n71 (IntKind.i64.wrap (n72 + 1)) g Qf)) :
 L47_23 n7 x63 n64 n65 x70 n71 n72 x77 n78 n79 g Qf := sxc (rk := rk) (loops := lo47) (joins := []) (n := 100000) (by kernel_rfl) h
def L52_5 (b3 : Bool) (n4 : Int) (y1 : Dat) (g : Glob) (Qf : Out → Glob → Prop) : Prop := CutP TT Tryz.f52 [1, 1, 1, 0, 1, 0] Qf (mkC TT 52 Tryz.f52 1 [(1, .loc 1 0 0), (3, .v 4 (.bool b3)), (4, .v 3 (.int .i64 n4))] [(1, .whole 29 y1)] g)
def L52_11 (b3 : Bool) (n4 : Int) (n6 : Int) (y5 : Dat) (y1 : Dat) (g : Glob) (Qf : Out → Glob → Prop) : Prop := CutP TT Tryz.f52 [1, 1, 1, 0, 1, 0, 0, 1, 0, 0, 1, 1, 1, 0] Qf (mkC TT 52 Tryz.f52 1 [(1, .loc 1 0 0), (3, .v 4 (.bool b3)), (4, .v 3 (.int .i64 n4)), (5, .loc 5 0 0), (6, .v 3 (.int .i64 n6))] [(5, .whole 76 y5), (1, .whole 29 y1)] g)
def L52_16 (b3 : Bool) (n4 : Int) (n6 : Int) (n7 : Int) (y5 : Dat) (y1 : Dat) (g : Glob) (Qf : Out → Glob → Prop) : Prop := CutP TT Tryz.f52 [1, 1, 1, 0, 1, 0, 0, 1, 0, 0, 1, 1, 1, 0, 0, 1, 0, 0, 1, 1, 0] Qf (mkC TT 52 Tryz.f52 1 [(1, .loc 1 0 0), (3, .v 4 (.bool b3)), (4, .v 3 (.int .i64 n4)), (5, .loc 5 0 0), (6, .v 3 (.int .i64 n6)), (7, .v 3 (.int .i64 n7))] [(5, .whole 76 y5), (1, .whole 29 y1)] g)
def lo52 : List CuI := [⟨5, [(1, .keep), (3, .keep), (4, .keep)], [(1, .whole 29)]⟩, ⟨11, [(1, .keep), (3, .keep), (4, .keep), (5, .keep), (6, .keep)], [(5, .whole 76), (1, .whole 29)]⟩, ⟨16, [(1, .keep), (3, .keep), (4, .keep), (5, .keep), (6, .keep), (7, .keep)], [(5, .whole 76), (1, .whole 29)]⟩]
theorem w52 {x0 : Dat} {g : Glob} {Qf : Out → Glob → Prop} (h0 : Ha TT 29 x0)
  (h : Br (decide (32 < (↑(elO (fld x0 0)).length : Int))) (Qf (.val (.d (.int .i64 3))) g) (EvF TT 27 [x0] g fun out g' => Ou (fun x => Qf (.panic x) g') (fun v => ∃ n, v = .d (.int .i64 n) ∧ Br (decide (2048 < n)) (Qf (.val (.d (.int .i64 3))) g') (EvF TT 114 [sub x0 1 7] g' fun out g' => Ou (fun x => Qf (.panic x) g') (fun v => ∃ b, v = .d (.bool b) ∧ Br b (Qf (.val (.d (.int .i64 3))) g') (EvF TT 115 [sub x0 1 7, .int .i64 256] g' fun out g' => Ou (fun x => Qf (.panic x) g') (fun v => ∃ b, v = .d (.bool b) ∧ L52_5 b 0 x0 g' Qf) out)) out)) out)) :
  EvF TT 52 [x0] g Qf :=
 su (rk := rk) (fn := Tryz.f52) (loops := lo52) (joins := []) (n := 100000) (args := [(29, x0)]) rfl rfl rfl rfl ⟨h0, trivial⟩ (by kernel_rfl) h
theorem w52_5 {b3 : Bool} {n4 : Int} {y1 : Dat} {g : Glob} {Qf : Out → Glob → Prop} 
 (h : Br (decide (n4 < (↑(elO (fld y1 0)).length : Int))) (InB n4 (elO (fld y1 0)).length ∧ Br (decide (4 < (↑(elO (fld (gtE (elO (fld y1 0)) n4) 1)).length : Int))) (Qf (.val (.d (.int .i64 3))) g) (Br (decide (32 < (↑(elO (fld (gtE (elO (fld y1 0)) n4) 2)).length : Int))) (Qf (.val (.d (.int .i64 3))) g) (L52_11 b3 n4 0 (gtE (elO (fld y1 0)) n4) y1 g Qf))) (Br b3 (Qf (.val (.d (.int .i64 4))) g) (Qf (.val (.d (.int .i64 0))) g))) :
 L52_5 b3 n4 y1 g Qf := sxc (rk := rk) (loops := lo52) (joins := []) (n := 100000) (by kernel_rfl) h
theorem w52_11 {b3 : Bool} {n4 : Int} {n6 : Int} {y5 : Dat} {y1 : Dat} {g : Glob} {Qf : Out → Glob → Prop} 
 (h : Br (decide (n6 < (↑(elO (fld y5 2)).length : Int))) (InB n6 (elO (fld y5 2)).length ∧ Br (decide (8 < (↑(elO (fld (gtE (elO (fld y5 2)) n6) 1)).length : Int))) (Qf (.val (.d (.int .i64 3))) g) (L52_16 b3 n4 n6 0 y5 y1 g Qf)) (L52_5 b3 (IntKind.i64.wrap (n4 + 1)) y1 g Qf)) :
 L52_11 b3 n4 n6 y5 y1 g Qf := sxc (rk := rk) (loops := lo52) (joins := []) (n := 100000) (by kernel_rfl) h
theorem w52_16 {b3 : Bool} {n4 : Int} {n6 : Int} {n7 : Int} {y5 : Dat} {y1 : Dat} {g : Glob} {Qf : Out → Glob → Prop} 
 (h : InB n6 (elO (fld y5 2)).length ∧ Br (decide (n7 < (↑(elO (fld (gtE (elO (fld y5 2)) n6) 1)).length : Int))) (Br b3 (L52_16 true n4 n6 (IntKind.i64.wrap (n7 + 1)) y5 y1 g Qf) (InB n6 (elO (fld y5 2)).length ∧ InB n7 (elO (fld (gtE (elO (fld y5 2)) n6) 1)).length ∧ EvF TT 74 [gtE (elO (fld (gtE (elO (fld y5 2)) n6) 1)) n7, .int .i64 256] g fun out g' => Ou (fun x => Qf (.panic x) g') (fun v => ∃ b, v = .d (.bool b) ∧ L52_16 b n4 n6 (IntKind.i64.wrap (n7 + 1)) y5 y1 g' Qf) out)) (L52_11 b3 n4 (IntKind.i64.wrap (n6 + 1)) y5 y1 g Qf)) :
 L52_16 b3 n4 n6 n7 y5 y1 g Qf := sxc (rk := rk) (loops := lo52) (joins := []) (n := 100000) (by kernel_rfl) h
end Go.Proofs.YtgmapdcdmomioaaGreatDoor.Pa
namespace Go.Proofs.YtgmapdcdmomioaaGreatDoor.Pa
open Go Go.Proofs.YtgmapdcdmomioaaGreatDoor.Am
def opL : List Str := [[43], [45], [42], [47], [37], [60], [61, 61]]
def ixF (s : Str) : List Str → Int → Int
 | [], _ => 0
 | x :: l, i => bif x == s then i else ixF s l (i + 1)
def opN (s : Str) : Int := ixF s opL 1
section
variable {s : Str} {g : Glob} {Qf : Out → Glob → Prop}
theorem qint {a b : Int} (h : Qf (.val (.d (.int .i64 a))) g) (e : a = b) : Qf (.val (.d (.int .i64 b))) g := e ▸ h
theorem containsPats_ok {f : FuncId} {c : List Dat} {p : Dat → Bool} {x : Dat} (hx : Ha TT 25 x) (hf : ∀ y ∈ elO x, ∀ Q : Out → Glob → Prop, Q (.val (.d (.bool (p y)))) g → EvF TT f (y :: c) g Q) (hQ : Qf (.val (.d (.bool ((elO x).any p)))) g) : EvF TT 130 [x, .clo f c] g Qf := by
 have exl := len_le undPats hx
 refine w130 hx (w197 hx ?_)
 refine lU (len := (elO x).length) (fun i => Qf (.val (.d (.bool (((elO x).drop i).any p)))) g → L197_2 x f c ((elO x).length : Int) (i : Int) g _) ?_ ?_ 0 (Nat.zero_le _) hQ
 ·intro hQ
  refine w197_2 ?_
  rw [Br_ge]
  rw [List.drop_length] at hQ
  exact ⟨_, rfl, hQ⟩
 ·intro i hi ih hQ
  refine w197_2 ?_
  rw [Br_lt hi, geE hi]
  rw [List.drop_eq_getElem_cons hi, List.any_cons] at hQ
  refine ⟨inB hi, hf _ (List.getElem_mem hi) _ ⟨_, rfl, Bi.2 ⟨fun q => ?_, fun q => ?_⟩⟩⟩
  ·rw [q] at hQ
   refine ⟨_, rfl, qcast hQ ?_⟩
   rw [Bool.true_or, decide_eq_true (by omega)]
  ·rw [q] at hQ
   rw [wra (by omega)]
   exact ih hQ
theorem containsExprs_ok {f : FuncId} {c : List Dat} {p : Dat → Bool} {x : Dat} (hx : Ha TT 24 x) (hf : ∀ y ∈ elO x, ∀ Q : Out → Glob → Prop, Q (.val (.d (.bool (p y)))) g → EvF TT f (y :: c) g Q) (hQ : Qf (.val (.d (.bool ((elO x).any p)))) g) : EvF TT 133 [x, .clo f c] g Qf := by
 have exl := len_le undExprs hx
 refine w133 hx (w199 hx ?_)
 refine lU (len := (elO x).length) (fun i => Qf (.val (.d (.bool (((elO x).drop i).any p)))) g → L199_2 x f c ((elO x).length : Int) (i : Int) g _) ?_ ?_ 0 (Nat.zero_le _) hQ
 ·intro hQ
  refine w199_2 ?_
  rw [Br_ge]
  rw [List.drop_length] at hQ
  exact ⟨_, rfl, hQ⟩
 ·intro i hi ih hQ
  refine w199_2 ?_
  rw [Br_lt hi, geE hi]
  rw [List.drop_eq_getElem_cons hi, List.any_cons] at hQ
  refine ⟨inB hi, hf _ (List.getElem_mem hi) _ ⟨_, rfl, Bi.2 ⟨fun q => ?_, fun q => ?_⟩⟩⟩
  ·rw [q] at hQ
   refine ⟨_, rfl, qcast hQ ?_⟩
   rw [Bool.true_or, decide_eq_true (by omega)]
  ·rw [q] at hQ
   rw [wra (by omega)]
   exact ih hQ
end
end Go.Proofs.YtgmapdcdmomioaaGreatDoor.Pa
namespace Go.Proofs.YtgmapdcdmomioaaGreatDoor.Pa
open Go Go.Proofs.YtgmapdcdmomioaaGreatDoor.Am
def okTy1 (k : Int) (s : Str) (n : Int) (l : Int) : Bool :=
 (bif k == 1 then (s == []) && (l == 0) else bif k == 2 then wVar s && (l == 0) else bif k == 3 then (s == []) && (l == 2) else bif k == 4 then wLow s && !(s == [105, 110, 116]) else false) && (n == 0)
mutual
def okTy : Ty → Bool
 | .mk k s n a => okTy1 k s n a.length && okTys a
def okTys : List Ty → Bool
 | [] => true
 | x :: l => okTy x && okTys l
end
mutual
def vrTy : Ty → Bool
 | .mk _ s _ a => decide (s.length < 2 ^ 40) && vrTys a
def vrTys : List Ty → Bool
 | [] => true
 | x :: l => vrTy x && vrTys l
end
def okPt1 (k : Int) (s : Str) (n : Int) (l : Int) : Bool :=
 bif k == 1 then (s == []) && ((n == 0) && (l == 0)) else bif k == 2 then wLow s && ((n == 0) && (l == 0)) else bif k == 3 then (s == []) && (inI n && (l == 0)) else bif k == 4 then wUp s && (n == 0) else false
mutual
def okPt : Pt → Bool
 | .mk k s n a _ => okPt1 k s n a.length && okPts a
def okPts : List Pt → Bool
 | [] => true
 | x :: l => okPt x && okPts l
end
def le8 (n : Int) : Bool := decide (n ≤ 8)
def gt8 (n : Int) : Bool := decide (8 < n)
mutual
def nwPt : Pt → Bool
 | .mk _ _ _ a _ => le8 a.length && nwPts a
def nwPts : List Pt → Bool
 | [] => true
 | x :: l => nwPt x && nwPts l
end
mutual
def flPt : Pt → Bool
 | .mk k _ _ a _ => ((k == 4) && gt8 a.length) || flPts a
def flPts : List Pt → Bool
 | [] => false
 | x :: l => flPt x || flPts l
end
theorem nwPts_any (xs : List Dat) : xs.any (fun y => !nwPt (aP y)) = !nwPts (xs.map aP) := by induction xs with
 | nil => rfl
 | cons x xs ih => simp [nwPts, ih]
theorem absPtA_len (x : Dat) : (absPtA x).length = (elO x).length := by rw [aA, List.length_map]
theorem absExA_len (x : Dat) : (absExA x).length = (elO x).length := by rw [abE, List.length_map]
theorem patNarrow_ok : ∀ (k : Nat) (x : Dat) (g : Glob), SizeOf.sizeOf x < k → Ha TT 127 x → ∀ (Qf : Out → Glob → Prop), Qf (.val (.d (.bool (nwPt (aP x))))) g → EvF TT 184 [x] g Qf
 | 0, x, g, hk, _ => by omega
 | k + 1, x, g, hk, hx => by
  intro Qf hQ
  refine w184 hx ?_
  obtain ⟨k1, s1, v1, a1, p1, rfl, hs1, t1⟩ := pat_ty hx
  simp only [aP, nwPt, absPtA_len] at hQ
  have ex := t1.els undPats
  have hc := sO (cs := [.int .i64 k1, .str s1, .int .i64 v1, a1, .int .i64 p1]) (c := a1) (by simp)
  simp only [fld, nth, intOf, strOf]
  refine Bi.2 ⟨fun q => ?_, fun q => ?_⟩
  ·rw [show le8 _ = true from q, Bool.true_and] at hQ
   exact containsPats_ok (p := fun y => !nwPt (aP y)) t1 (fun y hy Q q => by
    obtain ⟨i, hi, rfl⟩ := List.getElem_of_mem hy
    have hsz := siz hi
    exact w215 (ex.2 _ hy) (patNarrow_ok k _ g (by omega) (ex.2 _ hy) _ ⟨_, rfl, q⟩)) ⟨_, rfl, qcast hQ (by rw [nwPts_any, Bool.not_not, aA])⟩
  ·rw [show le8 _ = false from q, Bool.false_and] at hQ
   exact hQ
theorem fullPat_ok : ∀ (k : Nat) (x : Dat) (g : Glob), SizeOf.sizeOf x < k → Ha TT 127 x → ∀ (Qf : Out → Glob → Prop), Qf (.val (.d (.bool (flPt (aP x))))) g → EvF TT 192 [x] g Qf
 | 0, x, g, hk, _ => by omega
 | k + 1, x, g, hk, hx => by
  intro Qf hQ
  refine w192 hx ?_
  obtain ⟨k1, s1, v1, a1, p1, rfl, hs1, t1⟩ := pat_ty hx
  simp only [aP, flPt, absPtA_len] at hQ
  have ex := t1.els undPats
  have exl := ex.1.1
  have hc := sO (cs := [.int .i64 k1, .str s1, .int .i64 v1, a1, .int .i64 p1]) (c := a1) (by simp)
  simp only [fld, nth, intOf, strOf]
  have rest : ((k1 == 4) && gt8 ((elO a1).length : Int)) = false → L192_4 0 (.agg [.int .i64 k1, .str s1, .int .i64 v1, a1, .int .i64 p1]) g Qf := by
   intro hb
   rw [hb, Bool.false_or, aA] at hQ
   refine lU (len := (elO a1).length) (fun i => Qf (.val (.d (.bool (flPts (((elO a1).drop i).map aP))))) g → L192_4 (i : Int) (.agg [.int .i64 k1, .str s1, .int .i64 v1, a1, .int .i64 p1]) g Qf) ?_ ?_ 0 (Nat.zero_le _) hQ
   ·intro hQ
    refine w192_4 ?_
    rw [show (fld (Dat.agg [.int .i64 k1, .str s1, .int .i64 v1, a1, .int .i64 p1]) 3) = a1 from rfl, Br_ge]
    rw [List.drop_length] at hQ
    exact hQ
   ·intro i hi ih hQ
    refine w192_4 ?_
    rw [show (fld (Dat.agg [.int .i64 k1, .str s1, .int .i64 v1, a1, .int .i64 p1]) 3) = a1 from rfl, Br_lt hi, geE hi]
    have hsz := siz hi
    rw [List.drop_eq_getElem_cons hi, List.map_cons, flPts] at hQ
    refine ⟨inB hi, fullPat_ok k _ g (by omega) (ex.2 _ (List.getElem_mem hi)) _ ⟨_, rfl, Bi.2 ⟨fun q => ?_, fun q => ?_⟩⟩⟩
    ·rw [q] at hQ; exact hQ
    ·rw [q, Bool.false_or] at hQ
     rw [wra (by omega)]
     exact ih hQ
  refine Bi.2 ⟨fun q => Bi.2 ⟨fun q' => ?_, fun q' => ?_⟩, fun q => ?_⟩
  ·rw [q, show gt8 _ = true from q'] at hQ; exact hQ
  ·exact rest (by rw [q, show gt8 _ = false from q']; rfl)
  ·exact rest (by rw [q]; rfl)
theorem okPt_arg {k : Int} {s : Str} {n : Int} {a : List Pt} {p : Int} (h : okPt1 k s n a.length = true) : k = 4 ∨ a = [] := by
 unfold okPt1 at h
 by_cases h4 : k = 4
 ·exact .inl h4
 ·refine .inr (List.eq_nil_of_length_eq_zero ?_)
  rw [show (k == 4) = false by simpa using h4] at h
  cases h1 : (k == 1) <;> cases h2 : (k == 2) <;> cases h3 : (k == 3) <;> rw [h1, h2, h3] at h <;> simp at h <;> simp [h]
mutual
theorem nw_fl : ∀ x : Pt, okPt x = true → nwPt x = !flPt x
 | .mk k s n a p => fun h => by
  simp only [okPt, Bool.and_eq_true] at h
  have ih := nws_fls a h.2
  simp only [nwPt, flPt, ih]
  rcases okPt_arg (p := p) h.1 with rfl | rfl
  ·rw [show (((4 : Int) == 4)) = true from rfl, Bool.true_and, Bool.not_or]
   congr 1
   unfold le8 gt8
   by_cases hl : (a.length : Int) ≤ 8
   ·rw [decide_eq_true hl, decide_eq_false (by omega)]; rfl
   ·rw [decide_eq_false hl, decide_eq_true (by omega)]; rfl
  ·simp [flPts, le8, gt8]
theorem nws_fls : ∀ l : List Pt, okPts l = true → nwPts l = !flPts l
 | [] => fun _ => rfl
 | x :: l => fun h => by
  simp only [okPts, Bool.and_eq_true] at h
  simp only [nwPts, flPts, nw_fl x h.1, nws_fls l h.2, Bool.not_or]
end
end Go.Proofs.YtgmapdcdmomioaaGreatDoor.Pa
namespace Go.Proofs.YtgmapdcdmomioaaGreatDoor.Pa
open Go Go.Proofs.YtgmapdcdmomioaaGreatDoor.Am
def pos0 (n : Int) : Bool := decide (0 < n)
def okEx1 (k : Int) (s r : Str) (n la lb : Int) : Bool :=
 bif (!(k == 6) && !(r == [])) || ((!(k == 2) && !(n == 0)) || (!(k == 7) && pos0 lb)) then false
 else bif k == 1 then wLow s && (la == 0) else bif k == 2 then (s == []) && (inI n && (la == 0)) else bif k == 3 then wLow s && (la == 1) else bif k == 4 then (s == []) && (la == 2)
 else bif k == 5 then wLow s && (la == 2) else bif k == 6 then wLow s && (wLow r && (la == 2)) else bif k == 7 then (s == []) && (pos0 lb && (la == lb + 1)) else bif k == 8 then wUp s
 else bif k == 9 then pos0 (opN s) && (la == 2) else bif k == 10 then (s == []) && (la == 1) else false
mutual
def okEx : Ex' → Bool
 | .mk k s r n a b _ => okEx1 k s r n a.length b.length && (okPts b && okExs a)
def okExs : List Ex' → Bool
 | [] => true
 | x :: l => okEx x && okExs l
end
mutual
def nwEx : Ex' → Bool
 | .mk k _ _ _ a b _ => !((k == 8) && gt8 a.length) && (nwPts b && nwExs a)
def nwExs : List Ex' → Bool
 | [] => true
 | x :: l => nwEx x && nwExs l
end
mutual
def flEx : Ex' → Bool
 | .mk k _ _ _ a b _ => ((k == 8) && gt8 a.length) || (flPts b || flExs a)
def flExs : List Ex' → Bool
 | [] => false
 | x :: l => flEx x || flExs l
end
theorem nwExs_any (xs : List Dat) : xs.any (fun y => !nwEx (ax y)) = !nwExs (xs.map ax) := by induction xs with
 | nil => rfl
 | cons x xs ih => simp [nwExs, ih]
theorem narrow_ok : ∀ (k : Nat) (x : Dat) (g : Glob), SizeOf.sizeOf x < k → Ha TT 27 x → ∀ (Qf : Out → Glob → Prop), Qf (.val (.d (.bool (nwEx (ax x))))) g → EvF TT 103 [x] g Qf
 | 0, x, g, hk, _ => by omega
 | k + 1, x, g, hk, hx => by
  intro Qf hQ
  refine w103 hx ?_
  obtain ⟨k1, s1, r1, v1, a1, b1, p1, rfl, hs1, hr1, t1, u1⟩ := expr_ty hx
  simp only [ax, nwEx, absExA_len, absPtA_len] at hQ
  have ex := t1.els undExprs
  have eu := u1.els undPats
  have hc := sO (cs := [.int .i64 k1, .str s1, .str r1, .int .i64 v1, a1, b1, .int .i64 p1]) (c := a1) (by simp)
  simp only [fld, nth, intOf, strOf]
  have tail : Qf (.val (.d (.bool (nwPts (absPtA b1) && nwExs (absExA a1))))) g → EvF TT 130 [b1, .clo 183 []] g fun out g' => Ou (fun x => Qf (.panic x) g') (fun v => ∃ b, v = Val.d (.bool b) ∧ Br (!b) (EvF TT 133 [a1, .clo 185 []] g' fun out g' => Ou (fun x => Qf (.panic x) g') (fun v => ∃ b, v = Val.d (.bool b) ∧ Qf (.val (.d (.bool !b))) g') out) (Qf (.val (.d (.bool false))) g')) out := by
   intro h1
   refine containsPats_ok (p := fun y => !nwPt (aP y)) u1 (fun y hy Q q => w183 (eu.2 _ hy) (patNarrow_ok _ y g (Nat.lt_succ_self _) (eu.2 _ hy) _ ⟨_, rfl, q⟩)) ⟨_, rfl, ?_⟩
   rw [nwPts_any, Bool.not_not, ← aA]
   refine Bi.2 ⟨fun q => ?_, fun q => ?_⟩
   ·rw [q, Bool.true_and] at h1
    exact containsExprs_ok (p := fun y => !nwEx (ax y)) t1 (fun y hy Q q => by
     obtain ⟨i, hi, rfl⟩ := List.getElem_of_mem hy
     have hsz := siz hi
     exact w185 (ex.2 _ hy) (narrow_ok k _ g (by omega) (ex.2 _ hy) _ ⟨_, rfl, q⟩)) ⟨_, rfl, qcast h1 (by rw [nwExs_any, Bool.not_not, abE])⟩
   ·rw [q, Bool.false_and] at h1
    exact h1
  refine Bi.2 ⟨fun q => Bi.2 ⟨fun q' => ?_, fun q' => ?_⟩, fun q => ?_⟩
  ·rw [q, show gt8 _ = true from q'] at hQ; exact hQ
  ·rw [q, show gt8 _ = false from q'] at hQ; exact tail hQ
  ·rw [q] at hQ; exact tail hQ
theorem fullExpr_ok : ∀ (k : Nat) (x : Dat) (g : Glob), SizeOf.sizeOf x < k → Ha TT 27 x → ∀ (Qf : Out → Glob → Prop), Qf (.val (.d (.bool (flEx (ax x))))) g → EvF TT 114 [x] g Qf
 | 0, x, g, hk, _ => by omega
 | k + 1, x, g, hk, hx => by
  intro Qf hQ
  refine w114 hx ?_
  obtain ⟨k1, s1, r1, v1, a1, b1, p1, rfl, hs1, hr1, t1, u1⟩ := expr_ty hx
  simp only [ax, flEx, absExA_len, absPtA_len] at hQ
  have ex := t1.els undExprs
  have exl := ex.1.1
  have eu := u1.els undPats
  have eul := eu.1.1
  have hc := sO (cs := [.int .i64 k1, .str s1, .str r1, .int .i64 v1, a1, b1, .int .i64 p1]) (c := a1) (by simp)
  simp only [fld, nth, intOf, strOf]
  have rest : ((k1 == 8) && gt8 ((elO a1).length : Int)) = false → L114_4 0 (.agg [.int .i64 k1, .str s1, .str r1, .int .i64 v1, a1, b1, .int .i64 p1]) g Qf := by
   intro hb
   rw [hb, Bool.false_or, aA, abE] at hQ
   have args : Qf (.val (.d (.bool (flExs ((elO a1).map ax))))) g → L114_9 0 (.agg [.int .i64 k1, .str s1, .str r1, .int .i64 v1, a1, b1, .int .i64 p1]) g Qf := by
    refine lU (len := (elO a1).length) (fun i => Qf (.val (.d (.bool (flExs (((elO a1).drop i).map ax))))) g → L114_9 (i : Int) (.agg [.int .i64 k1, .str s1, .str r1, .int .i64 v1, a1, b1, .int .i64 p1]) g Qf) ?_ ?_ 0 (Nat.zero_le _)
    ·intro hQ
     refine w114_9 ?_
     rw [show (fld (Dat.agg [.int .i64 k1, .str s1, .str r1, .int .i64 v1, a1, b1, .int .i64 p1]) 4) = a1 from rfl, Br_ge]
     rw [List.drop_length] at hQ
     exact hQ
    ·intro i hi ih hQ
     refine w114_9 ?_
     rw [show (fld (Dat.agg [.int .i64 k1, .str s1, .str r1, .int .i64 v1, a1, b1, .int .i64 p1]) 4) = a1 from rfl, Br_lt hi, geE hi]
     have hsz := siz hi
     rw [List.drop_eq_getElem_cons hi, List.map_cons, flExs] at hQ
     refine ⟨inB hi, fullExpr_ok k _ g (by omega) (ex.2 _ (List.getElem_mem hi)) _ ⟨_, rfl, Bi.2 ⟨fun q => ?_, fun q => ?_⟩⟩⟩
     ·rw [q] at hQ; exact hQ
     ·rw [q, Bool.false_or] at hQ
      rw [wra (by omega)]
      exact ih hQ
   refine lU (len := (elO b1).length) (fun i => Qf (.val (.d (.bool (flPts (((elO b1).drop i).map aP) || flExs ((elO a1).map ax))))) g → L114_4 (i : Int) (.agg [.int .i64 k1, .str s1, .str r1, .int .i64 v1, a1, b1, .int .i64 p1]) g Qf) ?_ ?_ 0 (Nat.zero_le _) hQ
   ·intro hQ
    refine w114_4 ?_
    rw [show (fld (Dat.agg [.int .i64 k1, .str s1, .str r1, .int .i64 v1, a1, b1, .int .i64 p1]) 5) = b1 from rfl, Br_ge]
    rw [List.drop_length] at hQ
    exact args hQ
   ·intro i hi ih hQ
    refine w114_4 ?_
    rw [show (fld (Dat.agg [.int .i64 k1, .str s1, .str r1, .int .i64 v1, a1, b1, .int .i64 p1]) 5) = b1 from rfl, Br_lt hi, geE hi]
    rw [List.drop_eq_getElem_cons hi, List.map_cons, flPts, Bool.or_assoc] at hQ
    refine ⟨inB hi, fullPat_ok _ _ g (Nat.lt_succ_self _) (eu.2 _ (List.getElem_mem hi)) _ ⟨_, rfl, Bi.2 ⟨fun q => ?_, fun q => ?_⟩⟩⟩
    ·rw [q] at hQ; exact hQ
    ·rw [q, Bool.false_or] at hQ
     rw [wra (by omega)]
     exact ih hQ
  refine Bi.2 ⟨fun q => Bi.2 ⟨fun q' => ?_, fun q' => ?_⟩, fun q => ?_⟩
  ·rw [q, show gt8 _ = true from q'] at hQ; exact hQ
  ·exact rest (by rw [q, show gt8 _ = false from q']; rfl)
  ·exact rest (by rw [q]; rfl)
mutual
theorem nw_flEx : ∀ x : Ex', okEx x = true → nwEx x = !flEx x
 | .mk k s r n a b p => fun h => by
  simp only [okEx, Bool.and_eq_true] at h
  simp only [nwEx, flEx, nws_fls b h.2.1, nws_flsEx a h.2.2, Bool.not_or]
theorem nws_flsEx : ∀ l : List Ex', okExs l = true → nwExs l = !flExs l
 | [] => fun _ => rfl
 | x :: l => fun h => by
  simp only [okExs, Bool.and_eq_true] at h
  simp only [nwExs, flExs, nw_flEx x h.1, nws_flsEx l h.2, Bool.not_or]
end
end Go.Proofs.YtgmapdcdmomioaaGreatDoor.Pa
