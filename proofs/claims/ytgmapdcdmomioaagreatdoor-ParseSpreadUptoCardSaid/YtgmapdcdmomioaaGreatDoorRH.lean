/- A word of a kind, as the program asks it, is what the document says. What functions of the program do, printed by wip/tools/sx/sx.py. Which trees may be: the program's questions. Operations' signs, functions over slices. Which types and patterns may be: the program's tests, the document's. Which expressions may be: the program's tests, the document's. -/
import Derived.Test.YtgmapdcdmomioaaGreatDoorRG
import Derived.Test.YtgmapdcdmomioaaGreatDoorRE
set_option linter.all false
set_option autoImplicit false
set_option maxRecDepth 100000
namespace Go.Proofs.YtgmapdcdmomioaaGreatDoor.Pa
open Go Go.Proofs.YtgmapdcdmomioaaGreatDoor.Am
theorem signF_quote (s : Str) : signF (39 :: s) signL = none := by
  have key : ∀ l : List Str, (∀ x ∈ l, ∃ d t, x = d :: t ∧ d ≠ 39) → signF (39 :: s) l = none := by
    intro l
    induction l with
    | nil => intro _; rfl
    | cons x l ih =>
      intro h
      obtain ⟨d, t, rfl, hd⟩ := h x List.mem_cons_self
      unfold signF
      rw [if_neg ?_]
      · exact ih fun y hy => h y (List.mem_cons_of_mem _ hy)
      · rw [List.isPrefixOf_iff_prefix]
        intro hp
        rw [List.cons_prefix_cons] at hp
        exact hd hp.1
  refine key signL fun x hx => ?_
  simp only [signL, List.mem_cons, List.not_mem_nil, or_false] at hx
  rcases hx with rfl | rfl | rfl | rfl | rfl | rfl | rfl | rfl | rfl | rfl | rfl | rfl | rfl | rfl <;> exact ⟨_, _, rfl, by decide⟩
section
variable {s : Str} {g : Glob} {Qf : Out → Glob → Prop}
end
end Go.Proofs.YtgmapdcdmomioaaGreatDoor.Pa
namespace Go.Proofs.YtgmapdcdmomioaaGreatDoor.Pa
open Go Go.Proofs.YtgmapdcdmomioaaGreatDoor.Am
def L197_2 (x0 : Dat) (f1 : FuncId) (c1 : List Dat) (n7 : Int) (n8 : Int) (g : Glob) (Qf : Out → Glob → Prop) : Prop := CutP TT Tryz.f197 [1, 0, 1, 0] Qf (mkC TT 197 Tryz.f197 2 [(0, .v 25 (x0)), (1, .v 155 (.clo f1 c1)), (7, .v 3 (.int .i64 n7)), (8, .v 3 (.int .i64 n8))] [] g)
def lo197 : List CutI := [⟨2, [(0, .keep), (1, .keep), (7, .keep), (8, .keep)], []⟩]
theorem w197 {x0 : Dat} {f1 : FuncId} {c1 : List Dat} {g : Glob} {Qf : Out → Glob → Prop} (h0 : HasTy TT 25 x0)
    (h : L197_2 x0 f1 c1 (↑(elsOf x0).length : Int) 0 g Qf) :
    EvF TT 197 [x0, .clo f1 c1] g Qf :=
  sx_fun (rk := rk) (fn := Tryz.f197) (loops := lo197) (joins := []) (n := 100000) (args := [(25, x0), (155, .clo f1 c1)]) rfl rfl rfl rfl ⟨h0, tyClo rfl, trivial⟩ (by kernel_rfl) h
theorem w197_2 {x0 : Dat} {f1 : FuncId} {c1 : List Dat} {n7 : Int} {n8 : Int} {g : Glob} {Qf : Out → Glob → Prop} 
    (h : Br (decide (n8 < n7)) (InB n8 (elsOf x0).length ∧ EvF TT f1 (getE (elsOf x0) n8 :: c1) g fun out g' => Outc (fun x => Qf (.panic x) g') (fun v => ∃ b, v = .d (.bool b) ∧ Br b (Qf (.val (.d (.int .i64 n8))) g') (L197_2 x0 f1 c1 n7 (IntKind.i64.wrap (n8 + 1)) g' Qf)) out) (Qf (.val (.d (.int .i64 (-1)))) g)) :
    L197_2 x0 f1 c1 n7 n8 g Qf := sx_cut (rk := rk) (loops := lo197) (joins := []) (n := 100000) (by kernel_rfl) h
def lo130 : List CutI := []
theorem w130 {x0 : Dat} {f1 : FuncId} {c1 : List Dat} {g : Glob} {Qf : Out → Glob → Prop} (h0 : HasTy TT 25 x0)
    (h : EvF TT 197 [x0, .clo f1 c1] g fun out g' => Outc (fun x => Qf (.panic x) g') (fun v => ∃ n, v = .d (.int .i64 n) ∧ Qf (.val (.d (.bool (decide (0 ≤ n))))) g') out) :
    EvF TT 130 [x0, .clo f1 c1] g Qf :=
  sx_fun (rk := rk) (fn := Tryz.f130) (loops := lo130) (joins := []) (n := 100000) (args := [(25, x0), (155, .clo f1 c1)]) rfl rfl rfl rfl ⟨h0, tyClo rfl, trivial⟩ (by kernel_rfl) h
def L199_2 (x0 : Dat) (f1 : FuncId) (c1 : List Dat) (n7 : Int) (n8 : Int) (g : Glob) (Qf : Out → Glob → Prop) : Prop := CutP TT Tryz.f199 [1, 0, 1, 0] Qf (mkC TT 199 Tryz.f199 2 [(0, .v 24 (x0)), (1, .v 59 (.clo f1 c1)), (7, .v 3 (.int .i64 n7)), (8, .v 3 (.int .i64 n8))] [] g)
def lo199 : List CutI := [⟨2, [(0, .keep), (1, .keep), (7, .keep), (8, .keep)], []⟩]
theorem w199 {x0 : Dat} {f1 : FuncId} {c1 : List Dat} {g : Glob} {Qf : Out → Glob → Prop} (h0 : HasTy TT 24 x0)
    (h : L199_2 x0 f1 c1 (↑(elsOf x0).length : Int) 0 g Qf) :
    EvF TT 199 [x0, .clo f1 c1] g Qf :=
  sx_fun (rk := rk) (fn := Tryz.f199) (loops := lo199) (joins := []) (n := 100000) (args := [(24, x0), (59, .clo f1 c1)]) rfl rfl rfl rfl ⟨h0, tyClo rfl, trivial⟩ (by kernel_rfl) h
theorem w199_2 {x0 : Dat} {f1 : FuncId} {c1 : List Dat} {n7 : Int} {n8 : Int} {g : Glob} {Qf : Out → Glob → Prop} 
    (h : Br (decide (n8 < n7)) (InB n8 (elsOf x0).length ∧ EvF TT f1 (getE (elsOf x0) n8 :: c1) g fun out g' => Outc (fun x => Qf (.panic x) g') (fun v => ∃ b, v = .d (.bool b) ∧ Br b (Qf (.val (.d (.int .i64 n8))) g') (L199_2 x0 f1 c1 n7 (IntKind.i64.wrap (n8 + 1)) g' Qf)) out) (Qf (.val (.d (.int .i64 (-1)))) g)) :
    L199_2 x0 f1 c1 n7 n8 g Qf := sx_cut (rk := rk) (loops := lo199) (joins := []) (n := 100000) (by kernel_rfl) h
def lo133 : List CutI := []
theorem w133 {x0 : Dat} {f1 : FuncId} {c1 : List Dat} {g : Glob} {Qf : Out → Glob → Prop} (h0 : HasTy TT 24 x0)
    (h : EvF TT 199 [x0, .clo f1 c1] g fun out g' => Outc (fun x => Qf (.panic x) g') (fun v => ∃ n, v = .d (.int .i64 n) ∧ Qf (.val (.d (.bool (decide (0 ≤ n))))) g') out) :
    EvF TT 133 [x0, .clo f1 c1] g Qf :=
  sx_fun (rk := rk) (fn := Tryz.f133) (loops := lo133) (joins := []) (n := 100000) (args := [(24, x0), (59, .clo f1 c1)]) rfl rfl rfl rfl ⟨h0, tyClo rfl, trivial⟩ (by kernel_rfl) h
def lo184 : List CutI := []
theorem w184 {x0 : Dat} {g : Glob} {Qf : Out → Glob → Prop} (h0 : HasTy TT 127 x0)
    (h : Br (decide ((↑(elsOf (fld x0 3)).length : Int) ≤ 8)) (EvF TT 130 [fld x0 3, .clo 215 []] g fun out g' => Outc (fun x => Qf (.panic x) g') (fun v => ∃ b, v = .d (.bool b) ∧ Qf (.val (.d (.bool !b))) g') out) (Qf (.val (.d (.bool false))) g)) :
    EvF TT 184 [x0] g Qf :=
  sx_fun (rk := rk) (fn := Tryz.f184) (loops := lo184) (joins := []) (n := 100000) (args := [(127, x0)]) rfl rfl rfl rfl ⟨h0, trivial⟩ (by kernel_rfl) h
def lo215 : List CutI := []
theorem w215 {x0 : Dat} {g : Glob} {Qf : Out → Glob → Prop} (h0 : HasTy TT 127 x0)
    (h : EvF TT 184 [x0] g fun out g' => Outc (fun x => Qf (.panic x) g') (fun v => ∃ b, v = .d (.bool b) ∧ Qf (.val (.d (.bool !b))) g') out) :
    EvF TT 215 [x0] g Qf :=
  sx_fun (rk := rk) (fn := Tryz.f215) (loops := lo215) (joins := []) (n := 100000) (args := [(127, x0)]) rfl rfl rfl rfl ⟨h0, trivial⟩ (by kernel_rfl) h
def lo183 : List CutI := []
theorem w183 {x0 : Dat} {g : Glob} {Qf : Out → Glob → Prop} (h0 : HasTy TT 127 x0)
    (h : EvF TT 184 [x0] g fun out g' => Outc (fun x => Qf (.panic x) g') (fun v => ∃ b, v = .d (.bool b) ∧ Qf (.val (.d (.bool !b))) g') out) :
    EvF TT 183 [x0] g Qf :=
  sx_fun (rk := rk) (fn := Tryz.f183) (loops := lo183) (joins := []) (n := 100000) (args := [(127, x0)]) rfl rfl rfl rfl ⟨h0, trivial⟩ (by kernel_rfl) h
def lo103 : List CutI := []
theorem w103 {x0 : Dat} {g : Glob} {Qf : Out → Glob → Prop} (h0 : HasTy TT 27 x0)
    (h : Br (intOf (fld x0 0) == 8) (Br (decide (8 < (↑(elsOf (fld x0 4)).length : Int))) (Qf (.val (.d (.bool false))) g) (EvF TT 130 [fld x0 5, .clo 183 []] g fun out g' => Outc (fun x => Qf (.panic x) g') (fun v => ∃ b, v = .d (.bool b) ∧ Br (!b) (EvF TT 133 [fld x0 4, .clo 185 []] g' fun out g' => Outc (fun x => Qf (.panic x) g') (fun v => ∃ b, v = .d (.bool b) ∧ Qf (.val (.d (.bool !b))) g') out) (Qf (.val (.d (.bool false))) g')) out)) (EvF TT 130 [fld x0 5, .clo 183 []] g fun out g' => Outc (fun x => Qf (.panic x) g') (fun v => ∃ b, v = .d (.bool b) ∧ Br (!b) (EvF TT 133 [fld x0 4, .clo 185 []] g' fun out g' => Outc (fun x => Qf (.panic x) g') (fun v => ∃ b, v = .d (.bool b) ∧ Qf (.val (.d (.bool !b))) g') out) (Qf (.val (.d (.bool false))) g')) out)) :
    EvF TT 103 [x0] g Qf :=
  sx_fun (rk := rk) (fn := Tryz.f103) (loops := lo103) (joins := []) (n := 100000) (args := [(27, x0)]) rfl rfl rfl rfl ⟨h0, trivial⟩ (by kernel_rfl) h
def lo185 : List CutI := []
theorem w185 {x0 : Dat} {g : Glob} {Qf : Out → Glob → Prop} (h0 : HasTy TT 27 x0)
    (h : EvF TT 103 [x0] g fun out g' => Outc (fun x => Qf (.panic x) g') (fun v => ∃ b, v = .d (.bool b) ∧ Qf (.val (.d (.bool !b))) g') out) :
    EvF TT 185 [x0] g Qf :=
  sx_fun (rk := rk) (fn := Tryz.f185) (loops := lo185) (joins := []) (n := 100000) (args := [(27, x0)]) rfl rfl rfl rfl ⟨h0, trivial⟩ (by kernel_rfl) h
def L47_4 (x30 : Dat) (n31 : Int) (n32 : Int) (y1 : Dat) (g : Glob) (Qf : Out → Glob → Prop) : Prop := CutP TT Tryz.f47 [1, 1, 0, 1, 0] Qf (mkC TT 47 Tryz.f47 1 [(1, .loc 1 0 0), (30, .v 23 (x30)), (31, .v 3 (.int .i64 n31)), (32, .v 3 (.int .i64 n32))] [(1, .whole 29 y1)] g)
def L47_9 (x30 : Dat) (n31 : Int) (n32 : Int) (x47 : Dat) (n48 : Int) (n49 : Int) (y1 : Dat) (g : Glob) (Qf : Out → Glob → Prop) : Prop := CutP TT Tryz.f47 [1, 1, 0, 1, 0, 0, 1, 1, 0, 0, 1, 1, 1, 0] Qf (mkC TT 47 Tryz.f47 1 [(1, .loc 1 0 0), (30, .v 23 (x30)), (31, .v 3 (.int .i64 n31)), (32, .v 3 (.int .i64 n32)), (47, .v 74 (x47)), (48, .v 3 (.int .i64 n48)), (49, .v 3 (.int .i64 n49))] [(1, .whole 29 y1)] g)
def L47_17 (n7 : Int) (x63 : Dat) (n64 : Int) (n65 : Int) (g : Glob) (Qf : Out → Glob → Prop) : Prop := CutP TT Tryz.f47 [1, 1, 1, 1, 0, 1, 0] Qf (mkC TT 47 Tryz.f47 1 [(7, .v 3 (.int .i64 n7)), (63, .v 23 (x63)), (64, .v 3 (.int .i64 n64)), (65, .v 3 (.int .i64 n65))] [] g)
def L47_20 (n7 : Int) (x63 : Dat) (n64 : Int) (n65 : Int) (x70 : Dat) (n71 : Int) (n72 : Int) (g : Glob) (Qf : Out → Glob → Prop) : Prop := CutP TT Tryz.f47 [1, 1, 1, 1, 0, 1, 0, 0, 1, 1, 0, 0, 1, 1, 0] Qf (mkC TT 47 Tryz.f47 1 [(7, .v 3 (.int .i64 n7)), (63, .v 23 (x63)), (64, .v 3 (.int .i64 n64)), (65, .v 3 (.int .i64 n65)), (70, .v 74 (x70)), (71, .v 3 (.int .i64 n71)), (72, .v 3 (.int .i64 n72))] [] g)
def L47_23 (n7 : Int) (x63 : Dat) (n64 : Int) (n65 : Int) (x70 : Dat) (n71 : Int) (n72 : Int) (x77 : Dat) (n78 : Int) (n79 : Int) (g : Glob) (Qf : Out → Glob → Prop) : Prop := CutP TT Tryz.f47 [1, 1, 1, 1, 0, 1, 0, 0, 1, 1, 0, 0, 1, 1, 0, 0, 1, 1, 0, 0, 1, 1, 0] Qf (mkC TT 47 Tryz.f47 1 [(7, .v 3 (.int .i64 n7)), (63, .v 23 (x63)), (64, .v 3 (.int .i64 n64)), (65, .v 3 (.int .i64 n65)), (70, .v 74 (x70)), (71, .v 3 (.int .i64 n71)), (72, .v 3 (.int .i64 n72)), (77, .v 89 (x77)), (78, .v 3 (.int .i64 n78)), (79, .v 3 (.int .i64 n79))] [] g)
def lo47 : List CutI := [⟨4, [(1, .keep), (30, .keep), (31, .keep), (32, .keep)], [(1, .whole 29)]⟩, ⟨9, [(1, .keep), (30, .keep), (31, .keep), (32, .keep), (47, .keep), (48, .keep), (49, .keep)], [(1, .whole 29)]⟩, ⟨17, [(7, .keep), (63, .keep), (64, .keep), (65, .keep)], []⟩, ⟨20, [(7, .keep), (63, .keep), (64, .keep), (65, .keep), (70, .keep), (71, .keep), (72, .keep)], []⟩, ⟨23, [(7, .keep), (63, .keep), (64, .keep), (65, .keep), (70, .keep), (71, .keep), (72, .keep), (77, .keep), (78, .keep), (79, .keep)], []⟩]
theorem w47 {x0 : Dat} {g : Glob} {Qf : Out → Glob → Prop} (h0 : HasTy TT 29 x0)
    (h : Br (decide (32 < (↑(elsOf (fld x0 0)).length : Int))) (Qf (.val (.d (.int .i64 3))) g) (EvF TT 26 [x0] g fun out g' => Outc (fun x => Qf (.panic x) g') (fun v => ∃ n, v = .d (.int .i64 n) ∧ Br (decide (2048 < n)) (Qf (.val (.d (.int .i64 3))) g') (EvF TT 103 [sub x0 1 7] g' fun out g' => Outc (fun x => Qf (.panic x) g') (fun v => ∃ b, v = .d (.bool b) ∧ Br (!b) (Qf (.val (.d (.int .i64 3))) g') (L47_4 (fld x0 0) (↑(elsOf (fld x0 0)).length : Int) 0 x0 g' Qf)) out)) out)) :
    EvF TT 47 [x0] g Qf :=
  sx_fun (rk := rk) (fn := Tryz.f47) (loops := lo47) (joins := []) (n := 100000) (args := [(29, x0)]) rfl rfl rfl rfl ⟨h0, trivial⟩ (by kernel_rfl) h
theorem w47_4 {x30 : Dat} {n31 : Int} {n32 : Int} {y1 : Dat} {g : Glob} {Qf : Out → Glob → Prop} 
    (h : Br (decide (n32 < n31)) (InB n32 (elsOf x30).length ∧ Br (decide (4 < (↑(elsOf (fld (getE (elsOf x30) n32) 1)).length : Int))) (Qf (.val (.d (.int .i64 3))) g) (Br (decide (32 < (↑(elsOf (fld (getE (elsOf x30) n32) 2)).length : Int))) (Qf (.val (.d (.int .i64 3))) g) (L47_9 x30 n31 n32 (fld (getE (elsOf x30) n32) 2) (↑(elsOf (fld (getE (elsOf x30) n32) 2)).length : Int) 0 y1 g Qf))) (EvF TT 104 [sub y1 1 7] g fun out g' => Outc (fun x => Qf (.panic x) g') (fun v => ∃ n, v = .d (.int .i64 n) ∧ L47_17 n (fld y1 0) (↑(elsOf (fld y1 0)).length : Int) 0 g' Qf) out)) :
    L47_4 x30 n31 n32 y1 g Qf := sx_cut (rk := rk) (loops := lo47) (joins := []) (n := 100000) (by kernel_rfl) h
theorem w47_9 {x30 : Dat} {n31 : Int} {n32 : Int} {x47 : Dat} {n48 : Int} {n49 : Int} {y1 : Dat} {g : Glob} {Qf : Out → Glob → Prop} 
    (h : Br (decide (n49 < n48)) (InB n49 (elsOf x47).length ∧ Br (decide (8 < (↑(elsOf (fld (getE (elsOf x47) n49) 1)).length : Int))) (Qf (.val (.d (.int .i64 3))) g) (L47_9 x30 n31 n32 x47 n48 (IntKind.i64.wrap (n49 + 1)) y1 g Qf)) (L47_4 x30 n31 (IntKind.i64.wrap (n32 + 1)) y1 g Qf)) :
    L47_9 x30 n31 n32 x47 n48 n49 y1 g Qf := sx_cut (rk := rk) (loops := lo47) (joins := []) (n := 100000) (by kernel_rfl) h
theorem w47_17 {n7 : Int} {x63 : Dat} {n64 : Int} {n65 : Int} {g : Glob} {Qf : Out → Glob → Prop} 
    (h : Br (decide (n65 < n64)) (InB n65 (elsOf x63).length ∧ L47_20 n7 x63 n64 n65 (fld (getE (elsOf x63) n65) 2) (↑(elsOf (fld (getE (elsOf x63) n65) 2)).length : Int) 0 g Qf) (Br (decide (256 < n7)) (Qf (.val (.d (.int .i64 4))) g) (Qf (.val (.d (.int .i64 0))) g))) :
    L47_17 n7 x63 n64 n65 g Qf := sx_cut (rk := rk) (loops := lo47) (joins := []) (n := 100000) (by kernel_rfl) h
theorem w47_20 {n7 : Int} {x63 : Dat} {n64 : Int} {n65 : Int} {x70 : Dat} {n71 : Int} {n72 : Int} {g : Glob} {Qf : Out → Glob → Prop} 
    (h : Br (decide (n72 < n71)) (InB n72 (elsOf x70).length ∧ L47_23 n7 x63 n64 n65 x70 n71 n72 (fld (getE (elsOf x70) n72) 1) (↑(elsOf (fld (getE (elsOf x70) n72) 1)).length : Int) 0 g Qf) (L47_17 n7 x63 n64 (IntKind.i64.wrap (n65 + 1)) g Qf)) :
    L47_20 n7 x63 n64 n65 x70 n71 n72 g Qf := sx_cut (rk := rk) (loops := lo47) (joins := []) (n := 100000) (by kernel_rfl) h
theorem w47_23 {n7 : Int} {x63 : Dat} {n64 : Int} {n65 : Int} {x70 : Dat} {n71 : Int} {n72 : Int} {x77 : Dat} {n78 : Int} {n79 : Int} {g : Glob} {Qf : Out → Glob → Prop} 
    (h : Br (decide (n79 < n78)) (InB n79 (elsOf x77).length ∧ EvF TT 105 [getE (elsOf x77) n79] g fun out g' => Outc (fun x => Qf (.panic x) g') (fun v => ∃ n, v = .d (.int .i64 n) ∧ L47_23 (maxS true n7 n) x63 n64 n65 x70 n71 n72 x77 n78 (IntKind.i64.wrap (n79 + 1)) g' Qf) out) (L47_20 n7 x63 n64 n65 x70 n71 (IntKind.i64.wrap (n72 + 1)) g Qf)) :
    L47_23 n7 x63 n64 n65 x70 n71 n72 x77 n78 n79 g Qf := sx_cut (rk := rk) (loops := lo47) (joins := []) (n := 100000) (by kernel_rfl) h
end Go.Proofs.YtgmapdcdmomioaaGreatDoor.Pa
namespace Go.Proofs.YtgmapdcdmomioaaGreatDoor.Pa
open Go Go.Proofs.YtgmapdcdmomioaaGreatDoor.Am
def opL : List Str := [[43], [45], [42], [47], [37], [60], [61, 61]]
def ixF (s : Str) : List Str → Int → Int
  | [], _ => 0
  | x :: l, i => bif x == s then i else ixF s l (i + 1)
def opN (s : Str) : Int := ixF s opL 1
section
variable {s : Str} {g : Glob} {Qf : Out → Glob → Prop}
theorem containsPats_ok {f : FuncId} {c : List Dat} {p : Dat → Bool} {x : Dat} (hx : HasTy TT 25 x) (hf : ∀ y ∈ elsOf x, ∀ Q : Out → Glob → Prop, Q (.val (.d (.bool (p y)))) g → EvF TT f (y :: c) g Q) (hQ : Qf (.val (.d (.bool ((elsOf x).any p)))) g) : EvF TT 130 [x, .clo f c] g Qf := by
  have exl := len_le undPats hx
  refine w130 hx (w197 hx ?_)
  refine loopUp (len := (elsOf x).length) (fun i => Qf (.val (.d (.bool (((elsOf x).drop i).any p)))) g → L197_2 x f c ((elsOf x).length : Int) (i : Int) g _) ?_ ?_ 0 (Nat.zero_le _) hQ
  · intro hQ
    refine w197_2 ?_
    rw [Br_ge]
    rw [List.drop_length] at hQ
    exact ⟨_, rfl, hQ⟩
  · intro i hi ih hQ
    refine w197_2 ?_
    rw [Br_lt hi, getE_nat hi]
    rw [List.drop_eq_getElem_cons hi, List.any_cons] at hQ
    refine ⟨inB hi, hf _ (List.getElem_mem hi) _ ⟨_, rfl, Br_iff.2 ⟨fun q => ?_, fun q => ?_⟩⟩⟩
    · rw [q] at hQ
      refine ⟨_, rfl, qcast hQ ?_⟩
      rw [Bool.true_or, decide_eq_true (by omega)]
    · rw [q] at hQ
      rw [wrap_nat (by omega)]
      exact ih hQ
theorem containsExprs_ok {f : FuncId} {c : List Dat} {p : Dat → Bool} {x : Dat} (hx : HasTy TT 24 x) (hf : ∀ y ∈ elsOf x, ∀ Q : Out → Glob → Prop, Q (.val (.d (.bool (p y)))) g → EvF TT f (y :: c) g Q) (hQ : Qf (.val (.d (.bool ((elsOf x).any p)))) g) : EvF TT 133 [x, .clo f c] g Qf := by
  have exl := len_le undExprs hx
  refine w133 hx (w199 hx ?_)
  refine loopUp (len := (elsOf x).length) (fun i => Qf (.val (.d (.bool (((elsOf x).drop i).any p)))) g → L199_2 x f c ((elsOf x).length : Int) (i : Int) g _) ?_ ?_ 0 (Nat.zero_le _) hQ
  · intro hQ
    refine w199_2 ?_
    rw [Br_ge]
    rw [List.drop_length] at hQ
    exact ⟨_, rfl, hQ⟩
  · intro i hi ih hQ
    refine w199_2 ?_
    rw [Br_lt hi, getE_nat hi]
    rw [List.drop_eq_getElem_cons hi, List.any_cons] at hQ
    refine ⟨inB hi, hf _ (List.getElem_mem hi) _ ⟨_, rfl, Br_iff.2 ⟨fun q => ?_, fun q => ?_⟩⟩⟩
    · rw [q] at hQ
      refine ⟨_, rfl, qcast hQ ?_⟩
      rw [Bool.true_or, decide_eq_true (by omega)]
    · rw [q] at hQ
      rw [wrap_nat (by omega)]
      exact ih hQ
end
end Go.Proofs.YtgmapdcdmomioaaGreatDoor.Pa
namespace Go.Proofs.YtgmapdcdmomioaaGreatDoor.Pa
open Go Go.Proofs.YtgmapdcdmomioaaGreatDoor.Am
def okTy1 (k : Int) (s : Str) (n : Int) (l : Int) : Bool :=
  (bif k == 1 then (s == []) && (l == 0) else bif k == 2 then wVar s && (l == 0) else bif k == 3 then (s == []) && (l == 2) else bif k == 4 then wLow s && !(s == [105, 110, 116]) else false) && (n == 0)
mutual
def okTy : Ty → Bool
  | .mk k s n a => okTy1 k s n a.length && okTys a
def okTys : List Ty → Bool
  | [] => true
  | x :: l => okTy x && okTys l
end
mutual
def vrTy : Ty → Bool
  | .mk _ s _ a => decide (s.length < 2 ^ 40) && vrTys a
def vrTys : List Ty → Bool
  | [] => true
  | x :: l => vrTy x && vrTys l
end
def okPt1 (k : Int) (s : Str) (n : Int) (l : Int) : Bool :=
  bif k == 1 then (s == []) && ((n == 0) && (l == 0)) else bif k == 2 then wLow s && ((n == 0) && (l == 0)) else bif k == 3 then (s == []) && (inI n && (l == 0)) else bif k == 4 then wUp s && (n == 0) else false
mutual
def okPt : Pt → Bool
  | .mk k s n a _ => okPt1 k s n a.length && okPts a
def okPts : List Pt → Bool
  | [] => true
  | x :: l => okPt x && okPts l
end
def le8 (n : Int) : Bool := decide (n ≤ 8)
def gt8 (n : Int) : Bool := decide (8 < n)
mutual
def nwPt : Pt → Bool
  | .mk _ _ _ a _ => le8 a.length && nwPts a
def nwPts : List Pt → Bool
  | [] => true
  | x :: l => nwPt x && nwPts l
end
mutual
def flPt : Pt → Bool
  | .mk k _ _ a _ => ((k == 4) && gt8 a.length) || flPts a
def flPts : List Pt → Bool
  | [] => false
  | x :: l => flPt x || flPts l
end
theorem nwPts_any (xs : List Dat) : xs.any (fun y => !nwPt (absPt y)) = !nwPts (xs.map absPt) := by induction xs with
  | nil => rfl
  | cons x xs ih => simp [nwPts, ih]
theorem absPtA_len (x : Dat) : (absPtA x).length = (elsOf x).length := by rw [absPtA_map, List.length_map]
theorem absExA_len (x : Dat) : (absExA x).length = (elsOf x).length := by rw [absExA_map, List.length_map]
theorem patNarrow_ok : ∀ (k : Nat) (x : Dat) (g : Glob), SizeOf.sizeOf x < k → HasTy TT 127 x → ∀ (Qf : Out → Glob → Prop), Qf (.val (.d (.bool (nwPt (absPt x))))) g → EvF TT 184 [x] g Qf
  | 0, x, g, hk, _ => by omega
  | k + 1, x, g, hk, hx => by
    intro Qf hQ
    refine w184 hx ?_
    obtain ⟨k1, s1, v1, a1, p1, rfl, hs1, t1⟩ := pat_ty hx
    simp only [absPt, nwPt, absPtA_len] at hQ
    have ex := t1.els undPats
    have hc := sizeOf_cell (cs := [.int .i64 k1, .str s1, .int .i64 v1, a1, .int .i64 p1]) (c := a1) (by simp)
    simp only [fld, nth, intOf, strOf]
    refine Br_iff.2 ⟨fun q => ?_, fun q => ?_⟩
    · rw [show le8 _ = true from q, Bool.true_and] at hQ
      exact containsPats_ok (p := fun y => !nwPt (absPt y)) t1 (fun y hy Q q => by
        obtain ⟨i, hi, rfl⟩ := List.getElem_of_mem hy
        have hsz := sizeOf_el hi
        exact w215 (ex.2 _ hy) (patNarrow_ok k _ g (by omega) (ex.2 _ hy) _ ⟨_, rfl, q⟩)) ⟨_, rfl, qcast hQ (by rw [nwPts_any, Bool.not_not, absPtA_map])⟩
    · rw [show le8 _ = false from q, Bool.false_and] at hQ
      exact hQ
theorem okPt_arg {k : Int} {s : Str} {n : Int} {a : List Pt} {p : Int} (h : okPt1 k s n a.length = true) : k = 4 ∨ a = [] := by
  unfold okPt1 at h
  by_cases h4 : k = 4
  · exact .inl h4
  · refine .inr (List.eq_nil_of_length_eq_zero ?_)
    rw [show (k == 4) = false by simpa using h4] at h
    cases h1 : (k == 1) <;> cases h2 : (k == 2) <;> cases h3 : (k == 3) <;> rw [h1, h2, h3] at h <;> simp at h <;> simp [h]
mutual
theorem nw_fl : ∀ x : Pt, okPt x = true → nwPt x = !flPt x
  | .mk k s n a p => fun h => by
    simp only [okPt, Bool.and_eq_true] at h
    have ih := nws_fls a h.2
    simp only [nwPt, flPt, ih]
    rcases okPt_arg (p := p) h.1 with rfl | rfl
    · rw [show (((4 : Int) == 4)) = true from rfl, Bool.true_and, Bool.not_or]
      congr 1
      unfold le8 gt8
      by_cases hl : (a.length : Int) ≤ 8
      · rw [decide_eq_true hl, decide_eq_false (by omega)]; rfl
      · rw [decide_eq_false hl, decide_eq_true (by omega)]; rfl
    · simp [flPts, le8, gt8]
theorem nws_fls : ∀ l : List Pt, okPts l = true → nwPts l = !flPts l
  | [] => fun _ => rfl
  | x :: l => fun h => by
    simp only [okPts, Bool.and_eq_true] at h
    simp only [nwPts, flPts, nw_fl x h.1, nws_fls l h.2, Bool.not_or]
end
end Go.Proofs.YtgmapdcdmomioaaGreatDoor.Pa
namespace Go.Proofs.YtgmapdcdmomioaaGreatDoor.Pa
open Go Go.Proofs.YtgmapdcdmomioaaGreatDoor.Am
def pos0 (n : Int) : Bool := decide (0 < n)
def okEx1 (k : Int) (s r : Str) (n la lb : Int) : Bool :=
  bif (!(k == 6) && !(r == [])) || ((!(k == 2) && !(n == 0)) || (!(k == 7) && pos0 lb)) then false
  else bif k == 1 then wLow s && (la == 0) else bif k == 2 then (s == []) && (inI n && (la == 0)) else bif k == 3 then wLow s && (la == 1) else bif k == 4 then (s == []) && (la == 2)
  else bif k == 5 then wLow s && (la == 2) else bif k == 6 then wLow s && (wLow r && (la == 2)) else bif k == 7 then (s == []) && (pos0 lb && (la == lb + 1)) else bif k == 8 then wUp s
  else bif k == 9 then pos0 (opN s) && (la == 2) else bif k == 10 then (s == []) && (la == 1) else false
mutual
def okEx : Ex' → Bool
  | .mk k s r n a b _ => okEx1 k s r n a.length b.length && (okPts b && okExs a)
def okExs : List Ex' → Bool
  | [] => true
  | x :: l => okEx x && okExs l
end
mutual
def nwEx : Ex' → Bool
  | .mk k _ _ _ a b _ => !((k == 8) && gt8 a.length) && (nwPts b && nwExs a)
def nwExs : List Ex' → Bool
  | [] => true
  | x :: l => nwEx x && nwExs l
end
mutual
def flEx : Ex' → Bool
  | .mk k _ _ _ a b _ => ((k == 8) && gt8 a.length) || (flPts b || flExs a)
def flExs : List Ex' → Bool
  | [] => false
  | x :: l => flEx x || flExs l
end
theorem nwExs_any (xs : List Dat) : xs.any (fun y => !nwEx (absEx y)) = !nwExs (xs.map absEx) := by induction xs with
  | nil => rfl
  | cons x xs ih => simp [nwExs, ih]
theorem narrow_ok : ∀ (k : Nat) (x : Dat) (g : Glob), SizeOf.sizeOf x < k → HasTy TT 27 x → ∀ (Qf : Out → Glob → Prop), Qf (.val (.d (.bool (nwEx (absEx x))))) g → EvF TT 103 [x] g Qf
  | 0, x, g, hk, _ => by omega
  | k + 1, x, g, hk, hx => by
    intro Qf hQ
    refine w103 hx ?_
    obtain ⟨k1, s1, r1, v1, a1, b1, p1, rfl, hs1, hr1, t1, u1⟩ := expr_ty hx
    simp only [absEx, nwEx, absExA_len, absPtA_len] at hQ
    have ex := t1.els undExprs
    have eu := u1.els undPats
    have hc := sizeOf_cell (cs := [.int .i64 k1, .str s1, .str r1, .int .i64 v1, a1, b1, .int .i64 p1]) (c := a1) (by simp)
    simp only [fld, nth, intOf, strOf]
    have tail : Qf (.val (.d (.bool (nwPts (absPtA b1) && nwExs (absExA a1))))) g → EvF TT 130 [b1, .clo 183 []] g fun out g' => Outc (fun x => Qf (.panic x) g') (fun v => ∃ b, v = Val.d (.bool b) ∧ Br (!b) (EvF TT 133 [a1, .clo 185 []] g' fun out g' => Outc (fun x => Qf (.panic x) g') (fun v => ∃ b, v = Val.d (.bool b) ∧ Qf (.val (.d (.bool !b))) g') out) (Qf (.val (.d (.bool false))) g')) out := by
      intro h1
      refine containsPats_ok (p := fun y => !nwPt (absPt y)) u1 (fun y hy Q q => w183 (eu.2 _ hy) (patNarrow_ok _ y g (Nat.lt_succ_self _) (eu.2 _ hy) _ ⟨_, rfl, q⟩)) ⟨_, rfl, ?_⟩
      rw [nwPts_any, Bool.not_not, ← absPtA_map]
      refine Br_iff.2 ⟨fun q => ?_, fun q => ?_⟩
      · rw [q, Bool.true_and] at h1
        exact containsExprs_ok (p := fun y => !nwEx (absEx y)) t1 (fun y hy Q q => by
          obtain ⟨i, hi, rfl⟩ := List.getElem_of_mem hy
          have hsz := sizeOf_el hi
          exact w185 (ex.2 _ hy) (narrow_ok k _ g (by omega) (ex.2 _ hy) _ ⟨_, rfl, q⟩)) ⟨_, rfl, qcast h1 (by rw [nwExs_any, Bool.not_not, absExA_map])⟩
      · rw [q, Bool.false_and] at h1
        exact h1
    refine Br_iff.2 ⟨fun q => Br_iff.2 ⟨fun q' => ?_, fun q' => ?_⟩, fun q => ?_⟩
    · rw [q, show gt8 _ = true from q'] at hQ; exact hQ
    · rw [q, show gt8 _ = false from q'] at hQ; exact tail hQ
    · rw [q] at hQ; exact tail hQ
mutual
theorem nw_flEx : ∀ x : Ex', okEx x = true → nwEx x = !flEx x
  | .mk k s r n a b p => fun h => by
    simp only [okEx, Bool.and_eq_true] at h
    simp only [nwEx, flEx, nws_fls b h.2.1, nws_flsEx a h.2.2, Bool.not_or]
theorem nws_flsEx : ∀ l : List Ex', okExs l = true → nwExs l = !flExs l
  | [] => fun _ => rfl
  | x :: l => fun h => by
    simp only [okExs, Bool.and_eq_true] at h
    simp only [nwExs, flExs, nw_flEx x h.1, nws_flsEx l h.2, Bool.not_or]
end
end Go.Proofs.YtgmapdcdmomioaaGreatDoor.Pa
