/- What functions of the program do, printed by wip/tools/sx/sx.py. The document's comparisons of trees. What functions of the program do, printed by wip/tools/sx/sx.py. The document's comparison of programs; the program's own. The program's own comparison of programs. What functions of the program do, printed by wip/tools/sx/sx.py. The document's copies; what is too large. What functions of the program do, printed by wip/tools/sx/sx.py. The law ParseSame told: it answers true. -/
import Derived.Test.YtgmapdcdmomioaaGreatDoorRC
set_option linter.all false
set_option autoImplicit false
set_option maxRecDepth 100000
namespace Go.Proofs.YtgmapdcdmomioaaGreatDoor.Pa
open Go Go.Proofs.YtgmapdcdmomioaaGreatDoor.Am
def L86_4 (x0 : Dat) (x1 : Dat) (n5 : Int) (g : Glob) (Qf : Out → Glob → Prop) : Prop := CutP TT Tryz.f86 [1, 1, 0, 1, 0] Qf (mkC TT 86 Tryz.f86 2 [(0, .v 89 (x0)), (1, .v 89 (x1)), (5, .v 3 (.int .i64 n5))] [] g)
def lo86 : List CutI := [⟨4, [(0, .keep), (1, .keep), (5, .keep)], []⟩]
theorem w86 {x0 : Dat} {x1 : Dat} {g : Glob} {Qf : Out → Glob → Prop} (h0 : HasTy TT 89 x0) (h1 : HasTy TT 89 x1)
    (h : Br ((↑(elsOf x0).length : Int) != (↑(elsOf x1).length : Int)) (Qf (.val (.d (.bool false))) g) (L86_4 x0 x1 0 g Qf)) :
    EvF TT 86 [x0, x1] g Qf :=
  sx_fun (rk := rk) (fn := Tryz.f86) (loops := lo86) (joins := []) (n := 100000) (args := [(89, x0), (89, x1)]) rfl rfl rfl rfl ⟨h0, h1, trivial⟩ (by kernel_rfl) h
theorem w86_4 {x0 : Dat} {x1 : Dat} {n5 : Int} {g : Glob} {Qf : Out → Glob → Prop} 
    (h : Br (decide (n5 < (↑(elsOf x0).length : Int))) (InB n5 (elsOf x0).length ∧ InB n5 (elsOf x1).length ∧ Br (intOf (fld (getE (elsOf x0) n5) 0) != intOf (fld (getE (elsOf x1) n5) 0)) (Qf (.val (.d (.bool false))) g) (InB n5 (elsOf x0).length ∧ InB n5 (elsOf x1).length ∧ Br (!strOf (fld (getE (elsOf x0) n5) 1) == strOf (fld (getE (elsOf x1) n5) 1)) (Qf (.val (.d (.bool false))) g) (InB n5 (elsOf x0).length ∧ InB n5 (elsOf x1).length ∧ Br (intOf (fld (getE (elsOf x0) n5) 2) != intOf (fld (getE (elsOf x1) n5) 2)) (Qf (.val (.d (.bool false))) g) (InB n5 (elsOf x0).length ∧ InB n5 (elsOf x1).length ∧ EvF TT 86 [fld (getE (elsOf x0) n5) 3, fld (getE (elsOf x1) n5) 3] g fun out g' => Outc (fun x => Qf (.panic x) g') (fun v => ∃ b, v = .d (.bool b) ∧ Br (!b) (Qf (.val (.d (.bool false))) g') (L86_4 x0 x1 (IntKind.i64.wrap (n5 + 1)) g' Qf)) out)))) (Qf (.val (.d (.bool true))) g)) :
    L86_4 x0 x1 n5 g Qf := sx_cut (rk := rk) (loops := lo86) (joins := []) (n := 100000) (by kernel_rfl) h
def L116_4 (x0 : Dat) (x1 : Dat) (b2 : Bool) (n7 : Int) (g : Glob) (Qf : Out → Glob → Prop) : Prop := CutP TT Tryz.f116 [1, 1, 0, 1, 0] Qf (mkC TT 116 Tryz.f116 3 [(0, .v 25 (x0)), (1, .v 25 (x1)), (2, .v 4 (.bool b2)), (7, .v 3 (.int .i64 n7))] [] g)
def lo116 : List CutI := [⟨4, [(0, .keep), (1, .keep), (2, .keep), (7, .keep)], []⟩]
theorem w116 {x0 : Dat} {x1 : Dat} {b2 : Bool} {g : Glob} {Qf : Out → Glob → Prop} (h0 : HasTy TT 25 x0) (h1 : HasTy TT 25 x1)
    (h : Br ((↑(elsOf x0).length : Int) != (↑(elsOf x1).length : Int)) (Qf (.val (.d (.bool false))) g) (L116_4 x0 x1 b2 0 g Qf)) :
    EvF TT 116 [x0, x1, .bool b2] g Qf :=
  sx_fun (rk := rk) (fn := Tryz.f116) (loops := lo116) (joins := []) (n := 100000) (args := [(25, x0), (25, x1), (4, .bool b2)]) rfl rfl rfl rfl ⟨h0, h1, tyBool rfl, trivial⟩ (by kernel_rfl) h
theorem w116_4 {x0 : Dat} {x1 : Dat} {b2 : Bool} {n7 : Int} {g : Glob} {Qf : Out → Glob → Prop} 
    (h : Br (decide (n7 < (↑(elsOf x0).length : Int))) (InB n7 (elsOf x0).length ∧ InB n7 (elsOf x1).length ∧ Br (intOf (fld (getE (elsOf x0) n7) 0) != intOf (fld (getE (elsOf x1) n7) 0)) (Qf (.val (.d (.bool false))) g) (Br (!strOf (fld (getE (elsOf x0) n7) 1) == strOf (fld (getE (elsOf x1) n7) 1)) (Qf (.val (.d (.bool false))) g) (Br (intOf (fld (getE (elsOf x0) n7) 2) != intOf (fld (getE (elsOf x1) n7) 2)) (Qf (.val (.d (.bool false))) g) (Br b2 (Br (intOf (fld (getE (elsOf x0) n7) 4) != intOf (fld (getE (elsOf x1) n7) 4)) (Qf (.val (.d (.bool false))) g) (EvF TT 116 [fld (getE (elsOf x0) n7) 3, fld (getE (elsOf x1) n7) 3, .bool b2] g fun out g' => Outc (fun x => Qf (.panic x) g') (fun v => ∃ b, v = .d (.bool b) ∧ Br (!b) (Qf (.val (.d (.bool false))) g') (L116_4 x0 x1 b2 (IntKind.i64.wrap (n7 + 1)) g' Qf)) out)) (EvF TT 116 [fld (getE (elsOf x0) n7) 3, fld (getE (elsOf x1) n7) 3, .bool b2] g fun out g' => Outc (fun x => Qf (.panic x) g') (fun v => ∃ b, v = .d (.bool b) ∧ Br (!b) (Qf (.val (.d (.bool false))) g') (L116_4 x0 x1 b2 (IntKind.i64.wrap (n7 + 1)) g' Qf)) out))))) (Qf (.val (.d (.bool true))) g)) :
    L116_4 x0 x1 b2 n7 g Qf := sx_cut (rk := rk) (loops := lo116) (joins := []) (n := 100000) (by kernel_rfl) h
def L53_4 (x0 : Dat) (x1 : Dat) (b2 : Bool) (n7 : Int) (g : Glob) (Qf : Out → Glob → Prop) : Prop := CutP TT Tryz.f53 [1, 1, 0, 1, 0] Qf (mkC TT 53 Tryz.f53 3 [(0, .v 24 (x0)), (1, .v 24 (x1)), (2, .v 4 (.bool b2)), (7, .v 3 (.int .i64 n7))] [] g)
def lo53 : List CutI := [⟨4, [(0, .keep), (1, .keep), (2, .keep), (7, .keep)], []⟩]
theorem w53 {x0 : Dat} {x1 : Dat} {b2 : Bool} {g : Glob} {Qf : Out → Glob → Prop} (h0 : HasTy TT 24 x0) (h1 : HasTy TT 24 x1)
    (h : Br ((↑(elsOf x0).length : Int) != (↑(elsOf x1).length : Int)) (Qf (.val (.d (.bool false))) g) (L53_4 x0 x1 b2 0 g Qf)) :
    EvF TT 53 [x0, x1, .bool b2] g Qf :=
  sx_fun (rk := rk) (fn := Tryz.f53) (loops := lo53) (joins := []) (n := 100000) (args := [(24, x0), (24, x1), (4, .bool b2)]) rfl rfl rfl rfl ⟨h0, h1, tyBool rfl, trivial⟩ (by kernel_rfl) h
theorem w53_4 {x0 : Dat} {x1 : Dat} {b2 : Bool} {n7 : Int} {g : Glob} {Qf : Out → Glob → Prop} 
    (h : Br (decide (n7 < (↑(elsOf x0).length : Int))) (InB n7 (elsOf x0).length ∧ InB n7 (elsOf x1).length ∧ Br (intOf (fld (getE (elsOf x0) n7) 0) != intOf (fld (getE (elsOf x1) n7) 0)) (Qf (.val (.d (.bool false))) g) (Br (!strOf (fld (getE (elsOf x0) n7) 1) == strOf (fld (getE (elsOf x1) n7) 1)) (Qf (.val (.d (.bool false))) g) (Br (!strOf (fld (getE (elsOf x0) n7) 2) == strOf (fld (getE (elsOf x1) n7) 2)) (Qf (.val (.d (.bool false))) g) (Br (intOf (fld (getE (elsOf x0) n7) 3) != intOf (fld (getE (elsOf x1) n7) 3)) (Qf (.val (.d (.bool false))) g) (Br b2 (Br (intOf (fld (getE (elsOf x0) n7) 6) != intOf (fld (getE (elsOf x1) n7) 6)) (Qf (.val (.d (.bool false))) g) (EvF TT 116 [fld (getE (elsOf x0) n7) 5, fld (getE (elsOf x1) n7) 5, .bool b2] g fun out g' => Outc (fun x => Qf (.panic x) g') (fun v => ∃ b, v = .d (.bool b) ∧ Br (!b) (Qf (.val (.d (.bool false))) g') (EvF TT 53 [fld (getE (elsOf x0) n7) 4, fld (getE (elsOf x1) n7) 4, .bool b2] g' fun out g' => Outc (fun x => Qf (.panic x) g') (fun v => ∃ b, v = .d (.bool b) ∧ Br (!b) (Qf (.val (.d (.bool false))) g') (L53_4 x0 x1 b2 (IntKind.i64.wrap (n7 + 1)) g' Qf)) out)) out)) (EvF TT 116 [fld (getE (elsOf x0) n7) 5, fld (getE (elsOf x1) n7) 5, .bool b2] g fun out g' => Outc (fun x => Qf (.panic x) g') (fun v => ∃ b, v = .d (.bool b) ∧ Br (!b) (Qf (.val (.d (.bool false))) g') (EvF TT 53 [fld (getE (elsOf x0) n7) 4, fld (getE (elsOf x1) n7) 4, .bool b2] g' fun out g' => Outc (fun x => Qf (.panic x) g') (fun v => ∃ b, v = .d (.bool b) ∧ Br (!b) (Qf (.val (.d (.bool false))) g') (L53_4 x0 x1 b2 (IntKind.i64.wrap (n7 + 1)) g' Qf)) out)) out)))))) (Qf (.val (.d (.bool true))) g)) :
    L53_4 x0 x1 b2 n7 g Qf := sx_cut (rk := rk) (loops := lo53) (joins := []) (n := 100000) (by kernel_rfl) h
def L33_4 (x0 : Dat) (x1 : Dat) (b2 : Bool) (n7 : Int) (g : Glob) (Qf : Out → Glob → Prop) : Prop := CutP TT Tryz.f33 [1, 1, 0, 1, 0] Qf (mkC TT 33 Tryz.f33 3 [(0, .v 23 (x0)), (1, .v 23 (x1)), (2, .v 4 (.bool b2)), (7, .v 3 (.int .i64 n7))] [] g)
def L33_10 (x0 : Dat) (x1 : Dat) (b2 : Bool) (n7 : Int) (n10 : Int) (y9 : Dat) (y8 : Dat) (g : Glob) (Qf : Out → Glob → Prop) : Prop := CutP TT Tryz.f33 [1, 1, 0, 1, 0, 0, 1, 0, 0, 1, 1, 0, 1, 0] Qf (mkC TT 33 Tryz.f33 3 [(0, .v 23 (x0)), (1, .v 23 (x1)), (2, .v 4 (.bool b2)), (7, .v 3 (.int .i64 n7)), (8, .loc 8 0 0), (9, .loc 9 0 0), (10, .v 3 (.int .i64 n10))] [(9, .whole 76 y9), (8, .whole 76 y8)] g)
def L33_15 (x0 : Dat) (x1 : Dat) (b2 : Bool) (n7 : Int) (n11 : Int) (y9 : Dat) (y8 : Dat) (g : Glob) (Qf : Out → Glob → Prop) : Prop := CutP TT Tryz.f33 [1, 1, 0, 1, 0, 0, 1, 0, 0, 1, 1, 1, 1, 0] Qf (mkC TT 33 Tryz.f33 3 [(0, .v 23 (x0)), (1, .v 23 (x1)), (2, .v 4 (.bool b2)), (7, .v 3 (.int .i64 n7)), (8, .loc 8 0 0), (9, .loc 9 0 0), (11, .v 3 (.int .i64 n11))] [(9, .whole 76 y9), (8, .whole 76 y8)] g)
def lo33 : List CutI := [⟨4, [(0, .keep), (1, .keep), (2, .keep), (7, .keep)], []⟩, ⟨10, [(0, .keep), (1, .keep), (2, .keep), (7, .keep), (8, .keep), (9, .keep), (10, .keep)], [(9, .whole 76), (8, .whole 76)]⟩, ⟨15, [(0, .keep), (1, .keep), (2, .keep), (7, .keep), (8, .keep), (9, .keep), (11, .keep)], [(9, .whole 76), (8, .whole 76)]⟩]
theorem w33 {x0 : Dat} {x1 : Dat} {b2 : Bool} {g : Glob} {Qf : Out → Glob → Prop} (h0 : HasTy TT 23 x0) (h1 : HasTy TT 23 x1)
    (h : Br ((↑(elsOf x0).length : Int) != (↑(elsOf x1).length : Int)) (Qf (.val (.d (.bool false))) g) (L33_4 x0 x1 b2 0 g Qf)) :
    EvF TT 33 [x0, x1, .bool b2] g Qf :=
  sx_fun (rk := rk) (fn := Tryz.f33) (loops := lo33) (joins := []) (n := 100000) (args := [(23, x0), (23, x1), (4, .bool b2)]) rfl rfl rfl rfl ⟨h0, h1, tyBool rfl, trivial⟩ (by kernel_rfl) h
theorem w33_4 {x0 : Dat} {x1 : Dat} {b2 : Bool} {n7 : Int} {g : Glob} {Qf : Out → Glob → Prop} 
    (h : Br (decide (n7 < (↑(elsOf x0).length : Int))) (InB n7 (elsOf x0).length ∧ InB n7 (elsOf x1).length ∧ Br (!strOf (fld (getE (elsOf x0) n7) 0) == strOf (fld (getE (elsOf x1) n7) 0)) (Qf (.val (.d (.bool false))) g) (Br b2 (Br (intOf (fld (getE (elsOf x0) n7) 3) != intOf (fld (getE (elsOf x1) n7) 3)) (Qf (.val (.d (.bool false))) g) (Br ((↑(elsOf (fld (getE (elsOf x0) n7) 1)).length : Int) != (↑(elsOf (fld (getE (elsOf x1) n7) 1)).length : Int)) (Qf (.val (.d (.bool false))) g) (Br ((↑(elsOf (fld (getE (elsOf x0) n7) 2)).length : Int) != (↑(elsOf (fld (getE (elsOf x1) n7) 2)).length : Int)) (Qf (.val (.d (.bool false))) g) (L33_10 x0 x1 b2 n7 0 (getE (elsOf x1) n7) (getE (elsOf x0) n7) g Qf)))) (Br ((↑(elsOf (fld (getE (elsOf x0) n7) 1)).length : Int) != (↑(elsOf (fld (getE (elsOf x1) n7) 1)).length : Int)) (Qf (.val (.d (.bool false))) g) (Br ((↑(elsOf (fld (getE (elsOf x0) n7) 2)).length : Int) != (↑(elsOf (fld (getE (elsOf x1) n7) 2)).length : Int)) (Qf (.val (.d (.bool false))) g) (L33_10 x0 x1 b2 n7 0 (getE (elsOf x1) n7) (getE (elsOf x0) n7) g Qf))))) (Qf (.val (.d (.bool true))) g)) :
    L33_4 x0 x1 b2 n7 g Qf := sx_cut (rk := rk) (loops := lo33) (joins := []) (n := 100000) (by kernel_rfl) h
theorem w33_10 {x0 : Dat} {x1 : Dat} {b2 : Bool} {n7 : Int} {n10 : Int} {y9 : Dat} {y8 : Dat} {g : Glob} {Qf : Out → Glob → Prop} 
    (h : Br (decide (n10 < (↑(elsOf (fld y8 1)).length : Int))) (InB n10 (elsOf (fld y8 1)).length ∧ InB n10 (elsOf (fld y9 1)).length ∧ Br (!strOf (fld (getE (elsOf (fld y8 1)) n10) 0) == strOf (fld (getE (elsOf (fld y9 1)) n10) 0)) (Qf (.val (.d (.bool false))) g) (L33_10 x0 x1 b2 n7 (IntKind.i64.wrap (n10 + 1)) y9 y8 g Qf)) (L33_15 x0 x1 b2 n7 0 y9 y8 g Qf)) :
    L33_10 x0 x1 b2 n7 n10 y9 y8 g Qf := sx_cut (rk := rk) (loops := lo33) (joins := []) (n := 100000) (by kernel_rfl) h
theorem w33_15 {x0 : Dat} {x1 : Dat} {b2 : Bool} {n7 : Int} {n11 : Int} {y9 : Dat} {y8 : Dat} {g : Glob} {Qf : Out → Glob → Prop} 
    (h : Br (decide (n11 < (↑(elsOf (fld y8 2)).length : Int))) (InB n11 (elsOf (fld y8 2)).length ∧ InB n11 (elsOf (fld y9 2)).length ∧ Br (!strOf (fld (getE (elsOf (fld y8 2)) n11) 0) == strOf (fld (getE (elsOf (fld y9 2)) n11) 0)) (Qf (.val (.d (.bool false))) g) (InB n11 (elsOf (fld y8 2)).length ∧ InB n11 (elsOf (fld y9 2)).length ∧ EvF TT 86 [fld (getE (elsOf (fld y8 2)) n11) 1, fld (getE (elsOf (fld y9 2)) n11) 1] g fun out g' => Outc (fun x => Qf (.panic x) g') (fun v => ∃ b, v = .d (.bool b) ∧ Br (!b) (Qf (.val (.d (.bool false))) g') (L33_15 x0 x1 b2 n7 (IntKind.i64.wrap (n11 + 1)) y9 y8 g' Qf)) out)) (L33_4 x0 x1 b2 (IntKind.i64.wrap (n7 + 1)) g Qf)) :
    L33_15 x0 x1 b2 n7 n11 y9 y8 g Qf := sx_cut (rk := rk) (loops := lo33) (joins := []) (n := 100000) (by kernel_rfl) h
def lo18 : List CutI := []
theorem w18 {x0 : Dat} {x1 : Dat} {b2 : Bool} {g : Glob} {Qf : Out → Glob → Prop} (h0 : HasTy TT 29 x0) (h1 : HasTy TT 29 x1)
    (h : EvF TT 33 [fld x0 0, fld x1 0, .bool b2] g fun out g' => Outc (fun x => Qf (.panic x) g') (fun v => ∃ b, v = .d (.bool b) ∧ Br b (EvF TT 53 [.sl 7 [sub x0 1 7], .sl 7 [sub x1 1 7], .bool b2] g' fun out g' => Outc (fun x => Qf (.panic x) g') (fun v => ∃ b, v = .d (.bool b) ∧ Qf (.val (.d (.bool b))) g') out) (Qf (.val (.d (.bool false))) g')) out) :
    EvF TT 18 [x0, x1, .bool b2] g Qf :=
  sx_fun (rk := rk) (fn := Tryz.f18) (loops := lo18) (joins := []) (n := 100000) (args := [(29, x0), (29, x1), (4, .bool b2)]) rfl rfl rfl rfl ⟨h0, h1, tyBool rfl, trivial⟩ (by kernel_rfl) h
end Go.Proofs.YtgmapdcdmomioaaGreatDoor.Pa
namespace Go.Proofs.YtgmapdcdmomioaaGreatDoor.Pa
open Go Go.Proofs.YtgmapdcdmomioaaGreatDoor.Am
theorem ne_false {n m : Nat} (h : n = m) : ((n : Int) != (m : Int)) = false := by simp [h]
theorem ne_true {n m : Nat} (h : n ≠ m) : ((n : Int) != (m : Int)) = true := by simp; omega
theorem sameTypes_ok : ∀ (k : Nat) (x y : Dat) (g : Glob), SizeOf.sizeOf x < k → HasTy TT 89 x → HasTy TT 89 y → ∀ (Qf : Out → Glob → Prop), Qf (.val (.d (.bool (eqTys (absTyA x) (absTyA y))))) g → EvF TT 86 [x, y] g Qf
  | 0, x, y, g, hk, _, _ => by omega
  | k + 1, x, y, g, hk, hx, hy => by
    have ex := hx.els undTypes
    have exl := ex.1.1
    have ey := hy.els undTypes
    rw [eqTys_by, absTyA_map, absTyA_map, eqBy_map]
    intro Qf hQ
    refine w86 hx hy ?_
    by_cases hl : (elsOf x).length = (elsOf y).length
    · rw [ne_false hl, Br_false]
      generalize hR : eqBy (fun a b => eqTy (absTy a) (absTy b)) (elsOf x) (elsOf y) = R at hQ
      refine loopUp (len := (elsOf x).length) (fun i => eqBy (fun a b => eqTy (absTy a) (absTy b)) ((elsOf x).drop i) ((elsOf y).drop i) = R → L86_4 x y (i : Int) g Qf) ?_ ?_ 0 (Nat.zero_le _) hR
      · intro h
        rw [List.drop_length, hl, List.drop_length] at h
        refine w86_4 ?_
        rw [Br_ge]
        subst h
        exact hQ
      · intro i hi ih h
        have hj : i < (elsOf y).length := by omega
        refine w86_4 ?_
        rw [Br_lt hi, getE_nat hi, getE_nat hj]
        rw [eqBy_drop hi hj] at h
        have hsz := sizeOf_el hi
        obtain ⟨k1, s1, n1, a1, e1, _, t1⟩ := type_ty (ex.2 _ (List.getElem_mem hi))
        obtain ⟨k2, s2, n2, a2, e2, _, t2⟩ := type_ty (ey.2 _ (List.getElem_mem hj))
        rw [e1] at hsz h ⊢
        rw [e2] at h ⊢
        have hc : SizeOf.sizeOf a1 < k := by have := sizeOf_cell (cs := [.int .i64 k1, .str s1, .int .i64 n1, a1]) (c := a1) (by simp); omega
        simp only [absTy, eqTy] at h
        refine ⟨inB hi, inB hj, Br_iff.2 ⟨fun q => ?_, fun q => ⟨inB hi, inB hj, Br_iff.2 ⟨fun q' => ?_, fun q' => ⟨inB hi, inB hj, Br_iff.2 ⟨fun q'' => ?_, fun q'' => ⟨inB hi, inB hj, ?_⟩⟩⟩⟩⟩⟩⟩
        all_goals simp [fld, nth, intOf, strOf] at q
        · exact (by rw [← h]; simp [q] : R = false) ▸ hQ
        all_goals simp [fld, nth, intOf, strOf] at q'
        · exact (by rw [← h]; simp [q'] : R = false) ▸ hQ
        all_goals simp [fld, nth, intOf, strOf] at q''
        · exact (by rw [← h]; simp [q''] : R = false) ▸ hQ
        subst q q' q''
        simp only [beq_self_eq_true, Bool.true_and] at h
        refine sameTypes_ok k a1 a2 g hc t1 t2 _ ⟨_, rfl, Br_iff.2 ⟨fun q => ?_, fun q => ?_⟩⟩
        · exact (by rw [← h]; simp at q; simp [q] : R = false) ▸ hQ
        · rw [wrap_nat (by omega)]
          refine ih ?_
          rw [← h]
          simp at q
          simp [q]
    · rw [ne_true hl, Br_true]
      rw [eqBy_len hl] at hQ
      exact hQ
theorem samePats_ok (pl : Bool) : ∀ (k : Nat) (x y : Dat) (g : Glob), SizeOf.sizeOf x < k → HasTy TT 25 x → HasTy TT 25 y → ∀ (Qf : Out → Glob → Prop), Qf (.val (.d (.bool (eqPts pl (absPtA x) (absPtA y))))) g → EvF TT 116 [x, y, .bool pl] g Qf
  | 0, x, y, g, hk, _, _ => by omega
  | k + 1, x, y, g, hk, hx, hy => by
    have ex := hx.els undPats
    have exl := ex.1.1
    have ey := hy.els undPats
    rw [eqPts_by, absPtA_map, absPtA_map, eqBy_map]
    intro Qf hQ
    refine w116 hx hy ?_
    by_cases hl : (elsOf x).length = (elsOf y).length
    · rw [ne_false hl, Br_false]
      generalize hR : eqBy (fun a b => eqPt pl (absPt a) (absPt b)) (elsOf x) (elsOf y) = R at hQ
      refine loopUp (len := (elsOf x).length) (fun i => eqBy (fun a b => eqPt pl (absPt a) (absPt b)) ((elsOf x).drop i) ((elsOf y).drop i) = R → L116_4 x y pl (i : Int) g Qf) ?_ ?_ 0 (Nat.zero_le _) hR
      · intro h
        rw [List.drop_length, hl, List.drop_length] at h
        refine w116_4 ?_
        rw [Br_ge]
        subst h
        exact hQ
      · intro i hi ih h
        have hj : i < (elsOf y).length := by omega
        refine w116_4 ?_
        rw [Br_lt hi, getE_nat hi, getE_nat hj]
        rw [eqBy_drop hi hj] at h
        have hsz := sizeOf_el hi
        obtain ⟨k1, s1, n1, a1, p1, e1, _, t1⟩ := pat_ty (ex.2 _ (List.getElem_mem hi))
        obtain ⟨k2, s2, n2, a2, p2, e2, _, t2⟩ := pat_ty (ey.2 _ (List.getElem_mem hj))
        rw [e1] at hsz h ⊢
        rw [e2] at h ⊢
        have hc : SizeOf.sizeOf a1 < k := by have := sizeOf_cell (cs := [.int .i64 k1, .str s1, .int .i64 n1, a1, .int .i64 p1]) (c := a1) (by simp); omega
        simp only [absPt, eqPt] at h
        refine ⟨inB hi, inB hj, Br_iff.2 ⟨fun q => ?_, fun q => Br_iff.2 ⟨fun q' => ?_, fun q' => Br_iff.2 ⟨fun q'' => ?_, fun q'' => ?_⟩⟩⟩⟩
        all_goals simp [fld, nth, intOf, strOf] at q
        · exact (by rw [← h]; simp [q] : R = false) ▸ hQ
        all_goals simp [fld, nth, intOf, strOf] at q'
        · exact (by rw [← h]; simp [q'] : R = false) ▸ hQ
        all_goals simp [fld, nth, intOf, strOf] at q''
        · exact (by rw [← h]; simp [q''] : R = false) ▸ hQ
        subst q q' q''
        simp only [beq_self_eq_true, Bool.true_and] at h
        have fin : (!pl || p1 == p2) = true → EvF TT 116 [a1, a2, Dat.bool pl] g fun out g' => Outc (fun x => Qf (Out.panic x) g') (fun v => ∃ b, v = Val.d (Dat.bool b) ∧ Br (!b) (Qf (Out.val (Val.d (Dat.bool false))) g') (L116_4 x y pl (IntKind.i64.wrap ((i : Int) + 1)) g' Qf)) out := by
          intro hp
          simp only [hp, Bool.true_and] at h
          refine samePats_ok pl k a1 a2 g hc t1 t2 _ ⟨_, rfl, Br_iff.2 ⟨fun q => ?_, fun q => ?_⟩⟩
          · exact (by rw [← h]; simp at q; simp [q] : R = false) ▸ hQ
          · rw [wrap_nat (by omega)]
            refine ih ?_
            rw [← h]
            simp at q
            simp [q]
        refine Br_iff.2 ⟨fun hp => Br_iff.2 ⟨fun q => ?_, fun q => fin ?_⟩, fun hp => fin (by simp [hp])⟩
        · simp [fld, nth, intOf] at q
          exact (by rw [← h]; simp [hp, q] : R = false) ▸ hQ
        · simp [fld, nth, intOf] at q
          simp [q]
    · rw [ne_true hl, Br_true]
      rw [eqBy_len hl] at hQ
      exact hQ
theorem sameExprs_ok (pl : Bool) : ∀ (k : Nat) (x y : Dat) (g : Glob), SizeOf.sizeOf x < k → HasTy TT 24 x → HasTy TT 24 y → ∀ (Qf : Out → Glob → Prop), Qf (.val (.d (.bool (eqExs pl (absExA x) (absExA y))))) g → EvF TT 53 [x, y, .bool pl] g Qf
  | 0, x, y, g, hk, _, _ => by omega
  | k + 1, x, y, g, hk, hx, hy => by
    have ex := hx.els undExprs
    have exl := ex.1.1
    have ey := hy.els undExprs
    rw [eqExs_by, absExA_map, absExA_map, eqBy_map]
    intro Qf hQ
    refine w53 hx hy ?_
    by_cases hl : (elsOf x).length = (elsOf y).length
    · rw [ne_false hl, Br_false]
      generalize hR : eqBy (fun a b => eqEx pl (absEx a) (absEx b)) (elsOf x) (elsOf y) = R at hQ
      refine loopUp (len := (elsOf x).length) (fun i => eqBy (fun a b => eqEx pl (absEx a) (absEx b)) ((elsOf x).drop i) ((elsOf y).drop i) = R → L53_4 x y pl (i : Int) g Qf) ?_ ?_ 0 (Nat.zero_le _) hR
      · intro h
        rw [List.drop_length, hl, List.drop_length] at h
        refine w53_4 ?_
        rw [Br_ge]
        subst h
        exact hQ
      · intro i hi ih h
        have hj : i < (elsOf y).length := by omega
        refine w53_4 ?_
        rw [Br_lt hi, getE_nat hi, getE_nat hj]
        rw [eqBy_drop hi hj] at h
        have hsz := sizeOf_el hi
        obtain ⟨k1, s1, r1, n1, a1, b1, p1, e1, _, _, t1, u1⟩ := expr_ty (ex.2 _ (List.getElem_mem hi))
        obtain ⟨k2, s2, r2, n2, a2, b2, p2, e2, _, _, t2, u2⟩ := expr_ty (ey.2 _ (List.getElem_mem hj))
        rw [e1] at hsz h ⊢
        rw [e2] at h ⊢
        have hc : SizeOf.sizeOf a1 < k := by have := sizeOf_cell (cs := [.int .i64 k1, .str s1, .str r1, .int .i64 n1, a1, b1, .int .i64 p1]) (c := a1) (by simp); omega
        simp only [absEx, eqEx] at h
        refine ⟨inB hi, inB hj, Br_iff.2 ⟨fun q => ?_, fun q => Br_iff.2 ⟨fun q' => ?_, fun q' => Br_iff.2 ⟨fun q'' => ?_, fun q'' => Br_iff.2 ⟨fun q3 => ?_, fun q3 => ?_⟩⟩⟩⟩⟩
        all_goals simp [fld, nth, intOf, strOf] at q
        · exact (by rw [← h]; simp [q] : R = false) ▸ hQ
        all_goals simp [fld, nth, intOf, strOf] at q'
        · exact (by rw [← h]; simp [q'] : R = false) ▸ hQ
        all_goals simp [fld, nth, intOf, strOf] at q''
        · exact (by rw [← h]; simp [q''] : R = false) ▸ hQ
        all_goals simp [fld, nth, intOf, strOf] at q3
        · exact (by rw [← h]; simp [q3] : R = false) ▸ hQ
        subst q q' q'' q3
        simp only [beq_self_eq_true, Bool.true_and] at h
        have fin : (!pl || p1 == p2) = true → EvF TT 116 [b1, b2, Dat.bool pl] g fun out g' => Outc (fun x => Qf (Out.panic x) g') (fun v => ∃ b, v = Val.d (Dat.bool b) ∧ Br (!b) (Qf (Out.val (Val.d (Dat.bool false))) g') (EvF TT 53 [a1, a2, Dat.bool pl] g' fun out g' => Outc (fun x => Qf (Out.panic x) g') (fun v => ∃ b, v = Val.d (Dat.bool b) ∧ Br (!b) (Qf (Out.val (Val.d (Dat.bool false))) g') (L53_4 x y pl (IntKind.i64.wrap ((i : Int) + 1)) g' Qf)) out)) out := by
          intro hp
          simp only [hp, Bool.true_and] at h
          refine samePats_ok pl _ b1 b2 g (Nat.lt_succ_self _) u1 u2 _ ⟨_, rfl, Br_iff.2 ⟨fun q => ?_, fun q => ?_⟩⟩
          · exact (by rw [← h]; simp at q; simp [q] : R = false) ▸ hQ
          · refine sameExprs_ok pl k a1 a2 g hc t1 t2 _ ⟨_, rfl, Br_iff.2 ⟨fun q' => ?_, fun q' => ?_⟩⟩
            · exact (by rw [← h]; simp at q'; simp [q'] : R = false) ▸ hQ
            · rw [wrap_nat (by omega)]
              refine ih ?_
              rw [← h]
              simp at q q'
              simp [q, q']
        refine Br_iff.2 ⟨fun hp => Br_iff.2 ⟨fun q => ?_, fun q => fin ?_⟩, fun hp => fin (by simp [hp])⟩
        · simp [fld, nth, intOf] at q
          exact (by rw [← h]; simp [hp, q] : R = false) ▸ hQ
        · simp [fld, nth, intOf] at q
          simp [q]
    · rw [ne_true hl, Br_true]
      rw [eqBy_len hl] at hQ
      exact hQ
end Go.Proofs.YtgmapdcdmomioaaGreatDoor.Pa
namespace Go.Proofs.YtgmapdcdmomioaaGreatDoor.Pa
open Go Go.Proofs.YtgmapdcdmomioaaGreatDoor.Am
end Go.Proofs.YtgmapdcdmomioaaGreatDoor.Pa
namespace Go.Proofs.YtgmapdcdmomioaaGreatDoor.Pa
open Go Go.Proofs.YtgmapdcdmomioaaGreatDoor.Am
def eqCn (c d : Cn) : Bool := c.s == d.s && eqTys c.fs d.fs
def eqDc (pl : Bool) (c d : Dc) : Bool := c.s == d.s && ((!pl || c.p == d.p) && (eqBy (fun a b => a == b) c.ps d.ps && eqBy eqCn c.cs d.cs))
def eqPg (pl : Bool) (p q : Pg) : Bool := eqBy (eqDc pl) p.ds q.ds && eqEx pl p.e q.e
theorem absDc_agg (s : Str) (a b : Dat) (k : IntKind) (p : Int) : absDc (.agg [.str s, a, b, .int k p]) = ⟨s, (elsOf a).map strOf, (elsOf b).map absCn, p⟩ := rfl
theorem absCn_agg (s : Str) (a : Dat) : absCn (.agg [.str s, a]) = ⟨s, absTyA a⟩ := rfl
theorem eqDc_mk (pl : Bool) (s s' : Str) (a a' : List Str) (b b' : List Cn) (p p' : Int) : eqDc pl ⟨s, a, b, p⟩ ⟨s', a', b', p'⟩ = (s == s' && ((!pl || p == p') && (eqBy (fun a b => a == b) a a' && eqBy eqCn b b'))) := rfl
theorem eqCn_mk (s s' : Str) (a a' : List Ty) : eqCn ⟨s, a⟩ ⟨s', a'⟩ = (s == s' && eqTys a a') := rfl
theorem len_le {x : Dat} {t u : TypeId} (hu : TT.und t = some (.slice u)) (hx : HasTy TT t x) : (elsOf x).length ≤ 2 ^ 40 := (hx.els hu).1.1
theorem declsOk (pl : Bool) (x y : Dat) (g : Glob) (hx : HasTy TT 23 x) (hy : HasTy TT 23 y) (Qf : Out → Glob → Prop) (hQ : Qf (.val (.d (.bool (eqBy (eqDc pl) ((elsOf x).map absDc) ((elsOf y).map absDc))))) g) : EvF TT 33 [x, y, .bool pl] g Qf := by
  have ex := hx.els undDecls
  have ey := hy.els undDecls
  have exl := ex.1.1
  rw [eqBy_map] at hQ
  refine w33 hx hy ?_
  by_cases hl : (elsOf x).length = (elsOf y).length
  · rw [ne_false hl, Br_false]
    generalize hR : eqBy (fun a b => eqDc pl (absDc a) (absDc b)) (elsOf x) (elsOf y) = R at hQ
    refine loopUp (len := (elsOf x).length) (fun i => eqBy (fun a b => eqDc pl (absDc a) (absDc b)) ((elsOf x).drop i) ((elsOf y).drop i) = R → L33_4 x y pl (i : Int) g Qf) ?_ ?_ 0 (Nat.zero_le _) hR
    · intro h
      rw [List.drop_length, hl, List.drop_length] at h
      refine w33_4 ?_
      rw [Br_ge]
      subst h
      exact hQ
    · intro i hi ih h
      have hj : i < (elsOf y).length := by omega
      refine w33_4 ?_
      rw [Br_lt hi, getE_nat hi, getE_nat hj]
      rw [eqBy_drop hi hj] at h
      obtain ⟨s1, a1, b1, p1, e1, _, ta1, tb1⟩ := decl_ty (ex.2 _ (List.getElem_mem hi))
      obtain ⟨s2, a2, b2, p2, e2, _, ta2, tb2⟩ := decl_ty (ey.2 _ (List.getElem_mem hj))
      rw [e1] at h ⊢
      rw [e2] at h ⊢
      have ea1 := ta1.els undStrs
      have ea2 := ta2.els undStrs
      have eb1 := tb1.els undCons
      have eb2 := tb2.els undCons
      have la1 := ea1.1.1
      have lb1 := eb1.1.1
      simp only [absDc_agg, eqDc_mk] at h
      refine ⟨inB hi, inB hj, Br_iff.2 ⟨fun q => ?_, fun q => ?_⟩⟩
      all_goals simp [fld, nth, strOf] at q
      · exact (by rw [← h]; simp [q] : R = false) ▸ hQ
      subst q
      simp only [beq_self_eq_true, Bool.true_and] at h
      -- what follows, when the places are alike
      have cons : (!pl || p1 == p2) = true → (elsOf b1).length = (elsOf b2).length → eqBy (fun a b => a == b) ((elsOf a1).map strOf) ((elsOf a2).map strOf) = true →
          L33_15 x y pl (i : Int) 0 (.agg [.str s1, a2, b2, .int .i64 p2]) (.agg [.str s1, a1, b1, .int .i64 p1]) g Qf := by
        intro hp hlb ha
        rw [hp, ha] at h
        simp only [Bool.true_and] at h
        rw [eqBy_map] at h
        generalize hR2 : eqBy (fun a b => eqCn (absCn a) (absCn b)) (elsOf b1) (elsOf b2) = R2 at h
        refine loopUp (len := (elsOf b1).length) (fun j => eqBy (fun a b => eqCn (absCn a) (absCn b)) ((elsOf b1).drop j) ((elsOf b2).drop j) = R2 → L33_15 x y pl (i : Int) (j : Int) (.agg [.str s1, a2, b2, .int .i64 p2]) (.agg [.str s1, a1, b1, .int .i64 p1]) g Qf) ?_ ?_ 0 (Nat.zero_le _) hR2
        · intro h2
          rw [List.drop_length, hlb, List.drop_length] at h2
          refine w33_15 ?_
          rw [show (fld (Dat.agg [.str s1, a1, b1, .int .i64 p1]) 2) = b1 from rfl, Br_ge]
          rw [wrap_nat (by omega)]
          refine ih ?_
          rw [← h, ← h2]
          rfl
        · intro j hj1 ih2 h2
          have hj2 : j < (elsOf b2).length := by omega
          refine w33_15 ?_
          rw [show (fld (Dat.agg [.str s1, a1, b1, .int .i64 p1]) 2) = b1 from rfl, show (fld (Dat.agg [.str s1, a2, b2, .int .i64 p2]) 2) = b2 from rfl, Br_lt hj1, getE_nat hj1, getE_nat hj2]
          rw [eqBy_drop hj1 hj2] at h2
          obtain ⟨t1, f1, d1, _, tf1⟩ := con_ty (eb1.2 _ (List.getElem_mem hj1))
          obtain ⟨t2, f2, d2, _, tf2⟩ := con_ty (eb2.2 _ (List.getElem_mem hj2))
          rw [d1] at h2 ⊢
          rw [d2] at h2 ⊢
          simp only [absCn_agg, eqCn_mk] at h2
          refine ⟨inB hj1, inB hj2, Br_iff.2 ⟨fun q => ?_, fun q => ⟨inB hj1, inB hj2, ?_⟩⟩⟩
          all_goals simp [fld, nth, strOf] at q
          · exact (by rw [← h, ← h2]; simp [q] : R = false) ▸ hQ
          subst q
          simp only [beq_self_eq_true, Bool.true_and] at h2
          refine sameTypes_ok _ f1 f2 g (Nat.lt_succ_self _) tf1 tf2 _ ⟨_, rfl, Br_iff.2 ⟨fun q => ?_, fun q => ?_⟩⟩
          · exact (by rw [← h, ← h2]; simp at q; simp [q] : R = false) ▸ hQ
          · rw [wrap_nat (by omega)]
            refine ih2 ?_
            rw [← h2]
            simp at q
            simp [q]
      have pars : (!pl || p1 == p2) = true → (elsOf a1).length = (elsOf a2).length → (elsOf b1).length = (elsOf b2).length →
          L33_10 x y pl (i : Int) 0 (.agg [.str s1, a2, b2, .int .i64 p2]) (.agg [.str s1, a1, b1, .int .i64 p1]) g Qf := by
        intro hp hla hlb
        generalize hR2 : eqBy (fun a b => a == b) ((elsOf a1).map strOf) ((elsOf a2).map strOf) = R2 at h cons
        rw [eqBy_map] at hR2
        refine loopUp (len := (elsOf a1).length) (fun j => eqBy (fun a b => strOf a == strOf b) ((elsOf a1).drop j) ((elsOf a2).drop j) = R2 → L33_10 x y pl (i : Int) (j : Int) (.agg [.str s1, a2, b2, .int .i64 p2]) (.agg [.str s1, a1, b1, .int .i64 p1]) g Qf) ?_ ?_ 0 (Nat.zero_le _) hR2
        · intro h2
          rw [List.drop_length, hla, List.drop_length] at h2
          refine w33_10 ?_
          rw [show (fld (Dat.agg [.str s1, a1, b1, .int .i64 p1]) 1) = a1 from rfl, Br_ge]
          exact cons hp hlb (by rw [← h2]; rfl)
        · intro j hj1 ih2 h2
          have hj2 : j < (elsOf a2).length := by omega
          refine w33_10 ?_
          rw [show (fld (Dat.agg [.str s1, a1, b1, .int .i64 p1]) 1) = a1 from rfl, show (fld (Dat.agg [.str s1, a2, b2, .int .i64 p2]) 1) = a2 from rfl, Br_lt hj1, getE_nat hj1, getE_nat hj2]
          rw [eqBy_drop hj1 hj2] at h2
          obtain ⟨t1, d1, _⟩ := str_ty (ea1.2 _ (List.getElem_mem hj1))
          obtain ⟨t2, d2, _⟩ := str_ty (ea2.2 _ (List.getElem_mem hj2))
          rw [d1] at h2 ⊢
          rw [d2] at h2 ⊢
          simp only [strOf] at h2
          refine ⟨inB hj1, inB hj2, Br_iff.2 ⟨fun q => ?_, fun q => ?_⟩⟩
          all_goals simp [fld, strOf] at q
          · exact (by rw [← h, ← h2]; simp [q] : R = false) ▸ hQ
          subst q
          simp only [beq_self_eq_true, Bool.true_and] at h2
          rw [wrap_nat (by omega)]
          exact ih2 h2
      have lens : (!pl || p1 == p2) = true → Br ((↑(elsOf a1).length : Int) != (↑(elsOf a2).length : Int)) (Qf (Out.val (Val.d (Dat.bool false))) g) (Br ((↑(elsOf b1).length : Int) != (↑(elsOf b2).length : Int)) (Qf (Out.val (Val.d (Dat.bool false))) g) (L33_10 x y pl (i : Int) 0 (.agg [.str s1, a2, b2, .int .i64 p2]) (.agg [.str s1, a1, b1, .int .i64 p1]) g Qf)) := by
        intro hp
        by_cases h1 : (elsOf a1).length = (elsOf a2).length
        · rw [ne_false h1, Br_false]
          by_cases h2 : (elsOf b1).length = (elsOf b2).length
          · rw [ne_false h2, Br_false]
            exact pars hp h1 h2
          · rw [ne_true h2, Br_true]
            exact (by rw [← h, eqBy_len (f := eqCn) (by simpa using h2)]; simp : R = false) ▸ hQ
        · rw [ne_true h1, Br_true]
          exact (by rw [← h, eqBy_len (f := fun a b => a == b) (by simpa using h1)]; simp : R = false) ▸ hQ
      refine Br_iff.2 ⟨fun hp => Br_iff.2 ⟨fun q => ?_, fun q => lens ?_⟩, fun hp => lens (by simp [hp])⟩
      · simp [fld, nth, intOf] at q
        exact (by rw [← h]; simp [hp, q] : R = false) ▸ hQ
      · simp [fld, nth, intOf] at q
        simp [q]
  · rw [ne_true hl, Br_true]
    rw [eqBy_len hl] at hQ
    exact hQ
theorem one_expr {x : Dat} (hx : HasTy TT 27 x) : HasTy TT 24 (.sl 7 [x]) :=
  .sl _ _ _ _ undExprs (by kernel_rfl) ⟨by simp, fun b hb => by
    have : TT.bytes 27 = some 104 := by kernel_rfl
    rw [this] at hb; cases hb; simp⟩ (by simpa using hx)
theorem refSame_ok (pl : Bool) (x y : Dat) (g : Glob) (hx : HasTy TT 29 x) (hy : HasTy TT 29 y) (Qf : Out → Glob → Prop) (hQ : Qf (.val (.d (.bool (eqPg pl (absPg x) (absPg y))))) g) : EvF TT 18 [x, y, .bool pl] g Qf := by
  refine w18 hx hy ?_
  obtain ⟨d1, k1, s1, r1, n1, a1, b1, p1, rfl, hd1, he1⟩ := prog_ty hx
  obtain ⟨d2, k2, s2, r2, n2, a2, b2, p2, rfl, hd2, he2⟩ := prog_ty hy
  simp only [eqPg, absPg] at hQ
  refine declsOk pl d1 d2 g hd1 hd2 _ ⟨_, rfl, Br_iff.2 ⟨fun q => ?_, fun q => ?_⟩⟩
  · refine sameExprs_ok pl _ _ _ g (Nat.lt_succ_self _) (one_expr he1) (one_expr he2) _ ⟨_, rfl, ?_⟩
    have : eqBy (eqDc pl) ((elsOf (fld (.agg [d1, .int .i64 k1, .str s1, .str r1, .int .i64 n1, a1, b1, .int .i64 p1]) 0)).map absDc) ((elsOf (fld (.agg [d2, .int .i64 k2, .str s2, .str r2, .int .i64 n2, a2, b2, .int .i64 p2]) 0)).map absDc) = true := q
    rw [this, Bool.true_and] at hQ
    simpa [absExA, absExL, eqExs, sub] using hQ
  · have : eqBy (eqDc pl) ((elsOf (fld (.agg [d1, .int .i64 k1, .str s1, .str r1, .int .i64 n1, a1, b1, .int .i64 p1]) 0)).map absDc) ((elsOf (fld (.agg [d2, .int .i64 k2, .str s2, .str r2, .int .i64 n2, a2, b2, .int .i64 p2]) 0)).map absDc) = false := q
    rw [this, Bool.false_and] at hQ
    exact hQ
end Go.Proofs.YtgmapdcdmomioaaGreatDoor.Pa
namespace Go.Proofs.YtgmapdcdmomioaaGreatDoor.Pa
open Go Go.Proofs.YtgmapdcdmomioaaGreatDoor.Am
end Go.Proofs.YtgmapdcdmomioaaGreatDoor.Pa
namespace Go.Proofs.YtgmapdcdmomioaaGreatDoor.Pa
open Go Go.Proofs.YtgmapdcdmomioaaGreatDoor.Am
end Go.Proofs.YtgmapdcdmomioaaGreatDoor.Pa
namespace Go.Proofs.YtgmapdcdmomioaaGreatDoor.Pa
open Go Go.Proofs.YtgmapdcdmomioaaGreatDoor.Am
end Go.Proofs.YtgmapdcdmomioaaGreatDoor.Pa
namespace Go.Proofs.YtgmapdcdmomioaaGreatDoor.Pa
open Go Go.Proofs.YtgmapdcdmomioaaGreatDoor.Am
end Go.Proofs.YtgmapdcdmomioaaGreatDoor.Pa
namespace Go.Proofs.YtgmapdcdmomioaaGreatDoor.Pa
open Go Go.Proofs.YtgmapdcdmomioaaGreatDoor.Am
mutual
theorem eqTy_refl : ∀ x : Ty, eqTy x x = true
  | .mk k s n a => by simp [eqTy, eqTys_refl a]
theorem eqTys_refl : ∀ x : List Ty, eqTys x x = true
  | [] => rfl
  | x :: xs => by simp [eqTys, eqTy_refl x, eqTys_refl xs]
end
mutual
theorem eqPt_refl (pl : Bool) : ∀ x : Pt, eqPt pl x x = true
  | .mk k s n a p => by simp [eqPt, eqPts_refl pl a]
theorem eqPts_refl (pl : Bool) : ∀ x : List Pt, eqPts pl x x = true
  | [] => rfl
  | x :: xs => by simp [eqPts, eqPt_refl pl x, eqPts_refl pl xs]
end
mutual
theorem eqEx_refl (pl : Bool) : ∀ x : Ex', eqEx pl x x = true
  | .mk k s r n a b p => by simp [eqEx, eqExs_refl pl a, eqPts_refl pl b]
theorem eqExs_refl (pl : Bool) : ∀ x : List Ex', eqExs pl x x = true
  | [] => rfl
  | x :: xs => by simp [eqExs, eqEx_refl pl x, eqExs_refl pl xs]
end
theorem eqBy_refl {α : Type} {f : α → α → Bool} (h : ∀ x, f x x = true) : ∀ xs, eqBy f xs xs = true
  | [] => rfl
  | x :: xs => by simp [eqBy, h x, eqBy_refl h xs]
theorem eqCn_refl (x : Cn) : eqCn x x = true := by simp [eqCn, eqTys_refl]
theorem eqDc_refl (pl : Bool) (x : Dc) : eqDc pl x x = true := by
  simp [eqDc, eqBy_refl eqCn_refl, eqBy_refl (f := fun a b : Str => a == b) (by simp)]
theorem eqPg_refl (pl : Bool) (x : Pg) : eqPg pl x x = true := by
  simp [eqPg, eqBy_refl (eqDc_refl pl), eqEx_refl]
end Go.Proofs.YtgmapdcdmomioaaGreatDoor.Pa
