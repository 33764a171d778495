/- What functions of the program do, printed by wip/tools/sx/sx.py. The document's comparisons of trees. What functions of the program do, printed by wip/tools/sx/sx.py. The document's comparison of programs; the program's own. The program's own comparison of programs. What functions of the program do, printed by wip/tools/sx/sx.py. The document's copies; what is too large. What functions of the program do, printed by wip/tools/sx/sx.py. The law ParseSame told: it answers true. -/
import Derived.Test.YtgmapdcdmomioaaGreatDoorRC
set_option linter.all false
set_option autoImplicit false
set_option maxRecDepth 100000
namespace Go.Proofs.YtgmapdcdmomioaaGreatDoor.Pa
open Go Go.Proofs.YtgmapdcdmomioaaGreatDoor.Am
end Go.Proofs.YtgmapdcdmomioaaGreatDoor.Pa
namespace Go.Proofs.YtgmapdcdmomioaaGreatDoor.Pa
open Go Go.Proofs.YtgmapdcdmomioaaGreatDoor.Am
end Go.Proofs.YtgmapdcdmomioaaGreatDoor.Pa
namespace Go.Proofs.YtgmapdcdmomioaaGreatDoor.Pa
open Go Go.Proofs.YtgmapdcdmomioaaGreatDoor.Am
end Go.Proofs.YtgmapdcdmomioaaGreatDoor.Pa
namespace Go.Proofs.YtgmapdcdmomioaaGreatDoor.Pa
open Go Go.Proofs.YtgmapdcdmomioaaGreatDoor.Am
theorem one_expr {x : Dat} (hx : HasTy TT 27 x) : HasTy TT 24 (.sl 7 [x]) :=
  .sl _ _ _ _ undExprs (by kernel_rfl) ⟨by simp, fun b hb => by
    have : TT.bytes 27 = some 104 := by kernel_rfl
    rw [this] at hb; cases hb; simp⟩ (by simpa using hx)
end Go.Proofs.YtgmapdcdmomioaaGreatDoor.Pa
namespace Go.Proofs.YtgmapdcdmomioaaGreatDoor.Pa
open Go Go.Proofs.YtgmapdcdmomioaaGreatDoor.Am
end Go.Proofs.YtgmapdcdmomioaaGreatDoor.Pa
namespace Go.Proofs.YtgmapdcdmomioaaGreatDoor.Pa
open Go Go.Proofs.YtgmapdcdmomioaaGreatDoor.Am
def L93_3 (x0 : Dat) (l3 : List Dat) (n4 : Int) (g : Glob) (Qf : Out → Glob → Prop) : Prop := CutP TT Tryz.f93 [1, 1, 0, 1, 0] Qf (mkC TT 93 Tryz.f93 1 [(0, .v 25 (x0)), (3, .acc [(23, 0)] 25 5 l3), (4, .v 3 (.int .i64 n4))] [] g)
def lo93 : List CutI := [⟨3, [(0, .keep), (3, .acc [23]), (4, .keep)], []⟩]
theorem w93 {x0 : Dat} {g : Glob} {Qf : Out → Glob → Prop} (h0 : HasTy TT 25 x0)
    (h : L93_3 x0 [] 0 g Qf) :
    EvF TT 93 [x0] g Qf :=
  sx_fun (rk := rk) (fn := Tryz.f93) (loops := lo93) (joins := []) (n := 100000) (args := [(25, x0)]) rfl rfl rfl rfl ⟨h0, trivial⟩ (by kernel_rfl) h
theorem w93_3 {x0 : Dat} {l3 : List Dat} {n4 : Int} {g : Glob} {Qf : Out → Glob → Prop} 
    (h : Br (decide (n4 < (↑(elsOf x0).length : Int))) (InB n4 (elsOf x0).length ∧ EvF TT 93 [fld (getE (elsOf x0) n4) 3] g fun out g' => Outc (fun x => Qf (.panic x) g') (fun v => ∃ x, HasTy TT 25 x ∧ RetV v x ∧ Fits (l3.length + [Dat.agg [.int .i64 (intOf (fld (getE (elsOf x0) n4) 0)), .str (strOf (fld (getE (elsOf x0) n4) 1)), .int .i64 (intOf (fld (getE (elsOf x0) n4) 2)), x, .int .i64 (intOf (fld (getE (elsOf x0) n4) 4))]].length) 64 ∧ L93_3 x0 (l3 ++ [Dat.agg [.int .i64 (intOf (fld (getE (elsOf x0) n4) 0)), .str (strOf (fld (getE (elsOf x0) n4) 1)), .int .i64 (intOf (fld (getE (elsOf x0) n4) 2)), x, .int .i64 (intOf (fld (getE (elsOf x0) n4) 4))]]) (IntKind.i64.wrap (n4 + 1)) g' Qf) out) (Qf (.val (retOf 5 l3)) g)) :
    L93_3 x0 l3 n4 g Qf := sx_cut (rk := rk) (loops := lo93) (joins := []) (n := 100000) (by kernel_rfl) h
def L41_3 (x0 : Dat) (l3 : List Dat) (n4 : Int) (g : Glob) (Qf : Out → Glob → Prop) : Prop := CutP TT Tryz.f41 [1, 1, 0, 1, 0] Qf (mkC TT 41 Tryz.f41 1 [(0, .v 24 (x0)), (3, .acc [(27, 0)] 24 7 l3), (4, .v 3 (.int .i64 n4))] [] g)
def lo41 : List CutI := [⟨3, [(0, .keep), (3, .acc [27]), (4, .keep)], []⟩]
theorem w41 {x0 : Dat} {g : Glob} {Qf : Out → Glob → Prop} (h0 : HasTy TT 24 x0)
    (h : L41_3 x0 [] 0 g Qf) :
    EvF TT 41 [x0] g Qf :=
  sx_fun (rk := rk) (fn := Tryz.f41) (loops := lo41) (joins := []) (n := 100000) (args := [(24, x0)]) rfl rfl rfl rfl ⟨h0, trivial⟩ (by kernel_rfl) h
theorem w41_3 {x0 : Dat} {l3 : List Dat} {n4 : Int} {g : Glob} {Qf : Out → Glob → Prop} 
    (h : Br (decide (n4 < (↑(elsOf x0).length : Int))) (InB n4 (elsOf x0).length ∧ EvF TT 41 [fld (getE (elsOf x0) n4) 4] g fun out g' => Outc (fun x => Qf (.panic x) g') (fun v => ∃ x, HasTy TT 24 x ∧ RetV v x ∧ EvF TT 93 [fld (getE (elsOf x0) n4) 5] g' fun out g' => Outc (fun x => Qf (.panic x) g') (fun v => ∃ x_1, HasTy TT 25 x_1 ∧ RetV v x_1 ∧ Fits (l3.length + [Dat.agg [.int .i64 (intOf (fld (getE (elsOf x0) n4) 0)), .str (strOf (fld (getE (elsOf x0) n4) 1)), .str (strOf (fld (getE (elsOf x0) n4) 2)), .int .i64 (intOf (fld (getE (elsOf x0) n4) 3)), x, x_1, .int .i64 (intOf (fld (getE (elsOf x0) n4) 6))]].length) 104 ∧ L41_3 x0 (l3 ++ [Dat.agg [.int .i64 (intOf (fld (getE (elsOf x0) n4) 0)), .str (strOf (fld (getE (elsOf x0) n4) 1)), .str (strOf (fld (getE (elsOf x0) n4) 2)), .int .i64 (intOf (fld (getE (elsOf x0) n4) 3)), x, x_1, .int .i64 (intOf (fld (getE (elsOf x0) n4) 6))]]) (IntKind.i64.wrap (n4 + 1)) g' Qf) out) out) (Qf (.val (retOf 7 l3)) g)) :
    L41_3 x0 l3 n4 g Qf := sx_cut (rk := rk) (loops := lo41) (joins := []) (n := 100000) (by kernel_rfl) h
def L159_5 (n1 : Int) (n2 : Int) (n7 : Int) (y3 : Dat) (g : Glob) (Qf : Out → Glob → Prop) : Prop := CutP TT Tryz.f159 [1, 1, 1, 0, 1, 0] Qf (mkC TT 159 Tryz.f159 3 [(1, .v 3 (.int .i64 n1)), (2, .v 3 (.int .i64 n2)), (3, .loc 3 0 0), (7, .v 3 (.int .i64 n7))] [(3, .whole 127 y3)] g)
def lo159 : List CutI := [⟨5, [(1, .keep), (2, .keep), (3, .keep), (7, .keep)], [(3, .whole 127)]⟩]
theorem w159 {x0 : Dat} {n1 : Int} {n2 : Int} {g : Glob} {Qf : Out → Glob → Prop} (h0 : HasTy TT 127 x0)
    (h : NeZ 10 ∧ Br (decide (20000 < IntKind.i64.wrap (n2 + IntKind.i64.wrap (1 + IntKind.i64.wrap ((↑(elsOf (fld x0 3)).length : Int).tdiv 10))))) (Qf (.val (.d (.int .i64 (-1)))) g) (Br (decide (600 < n1)) (Qf (.val (.d (.int .i64 (-1)))) g) (L159_5 n1 (IntKind.i64.wrap (n2 + IntKind.i64.wrap (1 + IntKind.i64.wrap ((↑(elsOf (fld x0 3)).length : Int).tdiv 10)))) 0 x0 g Qf))) :
    EvF TT 159 [x0, .int .i64 n1, .int .i64 n2] g Qf :=
  sx_fun (rk := rk) (fn := Tryz.f159) (loops := lo159) (joins := []) (n := 100000) (args := [(127, x0), (3, .int .i64 n1), (3, .int .i64 n2)]) rfl rfl rfl rfl ⟨h0, tyInt rfl, tyInt rfl, trivial⟩ (by kernel_rfl) h
theorem w159_5 {n1 : Int} {n2 : Int} {n7 : Int} {y3 : Dat} {g : Glob} {Qf : Out → Glob → Prop} 
    (h : Br (decide (n7 < (↑(elsOf (fld y3 3)).length : Int))) (Br (decide (0 ≤ n2)) (InB n7 (elsOf (fld y3 3)).length ∧ EvF TT 159 [getE (elsOf (fld y3 3)) n7, .int .i64 (IntKind.i64.wrap (n1 + 1)), .int .i64 n2] g fun out g' => Outc (fun x => Qf (.panic x) g') (fun v => ∃ n, v = .d (.int .i64 n) ∧ L159_5 n1 n (IntKind.i64.wrap (n7 + 1)) y3 g' Qf) out) (Qf (.val (.d (.int .i64 n2))) g)) (Qf (.val (.d (.int .i64 n2))) g)) :
    L159_5 n1 n2 n7 y3 g Qf := sx_cut (rk := rk) (loops := lo159) (joins := []) (n := 100000) (by kernel_rfl) h
def L88_5 (n1 : Int) (n2 : Int) (n7 : Int) (y3 : Dat) (g : Glob) (Qf : Out → Glob → Prop) : Prop := CutP TT Tryz.f88 [1, 1, 1, 0, 1, 0] Qf (mkC TT 88 Tryz.f88 3 [(1, .v 3 (.int .i64 n1)), (2, .v 3 (.int .i64 n2)), (3, .loc 3 0 0), (7, .v 3 (.int .i64 n7))] [(3, .whole 27 y3)] g)
def L88_9 (n1 : Int) (n2 : Int) (n8 : Int) (y3 : Dat) (g : Glob) (Qf : Out → Glob → Prop) : Prop := CutP TT Tryz.f88 [1, 1, 1, 1, 0, 1, 0] Qf (mkC TT 88 Tryz.f88 3 [(1, .v 3 (.int .i64 n1)), (2, .v 3 (.int .i64 n2)), (3, .loc 3 0 0), (8, .v 3 (.int .i64 n8))] [(3, .whole 27 y3)] g)
def lo88 : List CutI := [⟨5, [(1, .keep), (2, .keep), (3, .keep), (7, .keep)], [(3, .whole 27)]⟩, ⟨9, [(1, .keep), (2, .keep), (3, .keep), (8, .keep)], [(3, .whole 27)]⟩]
theorem w88 {x0 : Dat} {n1 : Int} {n2 : Int} {g : Glob} {Qf : Out → Glob → Prop} (h0 : HasTy TT 27 x0)
    (h : NeZ 10 ∧ NeZ 10 ∧ Br (decide (20000 < IntKind.i64.wrap (n2 + IntKind.i64.wrap (IntKind.i64.wrap (1 + IntKind.i64.wrap ((↑(elsOf (fld x0 4)).length : Int).tdiv 10)) + IntKind.i64.wrap ((↑(elsOf (fld x0 5)).length : Int).tdiv 10))))) (Qf (.val (.d (.int .i64 (-1)))) g) (Br (decide (600 < n1)) (Qf (.val (.d (.int .i64 (-1)))) g) (L88_5 n1 (IntKind.i64.wrap (n2 + IntKind.i64.wrap (IntKind.i64.wrap (1 + IntKind.i64.wrap ((↑(elsOf (fld x0 4)).length : Int).tdiv 10)) + IntKind.i64.wrap ((↑(elsOf (fld x0 5)).length : Int).tdiv 10)))) 0 x0 g Qf))) :
    EvF TT 88 [x0, .int .i64 n1, .int .i64 n2] g Qf :=
  sx_fun (rk := rk) (fn := Tryz.f88) (loops := lo88) (joins := []) (n := 100000) (args := [(27, x0), (3, .int .i64 n1), (3, .int .i64 n2)]) rfl rfl rfl rfl ⟨h0, tyInt rfl, tyInt rfl, trivial⟩ (by kernel_rfl) h
theorem w88_5 {n1 : Int} {n2 : Int} {n7 : Int} {y3 : Dat} {g : Glob} {Qf : Out → Glob → Prop} 
    (h : Br (decide (n7 < (↑(elsOf (fld y3 5)).length : Int))) (Br (decide (0 ≤ n2)) (InB n7 (elsOf (fld y3 5)).length ∧ EvF TT 159 [getE (elsOf (fld y3 5)) n7, .int .i64 (IntKind.i64.wrap (n1 + 1)), .int .i64 n2] g fun out g' => Outc (fun x => Qf (.panic x) g') (fun v => ∃ n, v = .d (.int .i64 n) ∧ L88_5 n1 n (IntKind.i64.wrap (n7 + 1)) y3 g' Qf) out) (L88_9 n1 n2 0 y3 g Qf)) (L88_9 n1 n2 0 y3 g Qf)) :
    L88_5 n1 n2 n7 y3 g Qf := sx_cut (rk := rk) (loops := lo88) (joins := []) (n := 100000) (by kernel_rfl) h
theorem w88_9 {n1 : Int} {n2 : Int} {n8 : Int} {y3 : Dat} {g : Glob} {Qf : Out → Glob → Prop} 
    (h : Br (decide (n8 < (↑(elsOf (fld y3 4)).length : Int))) (Br (decide (0 ≤ n2)) (InB n8 (elsOf (fld y3 4)).length ∧ EvF TT 88 [getE (elsOf (fld y3 4)) n8, .int .i64 (IntKind.i64.wrap (n1 + 1)), .int .i64 n2] g fun out g' => Outc (fun x => Qf (.panic x) g') (fun v => ∃ n, v = .d (.int .i64 n) ∧ L88_9 n1 n (IntKind.i64.wrap (n8 + 1)) y3 g' Qf) out) (Qf (.val (.d (.int .i64 n2))) g)) (Qf (.val (.d (.int .i64 n2))) g)) :
    L88_9 n1 n2 n8 y3 g Qf := sx_cut (rk := rk) (loops := lo88) (joins := []) (n := 100000) (by kernel_rfl) h
def lo37 : List CutI := []
theorem w37 {x0 : Dat} {g : Glob} {Qf : Out → Glob → Prop} (h0 : HasTy TT 27 x0)
    (h : EvF TT 88 [x0, .int .i64 0, .int .i64 0] g fun out g' => Outc (fun x => Qf (.panic x) g') (fun v => ∃ n, v = .d (.int .i64 n) ∧ Qf (.val (.d (.bool (decide (n < 0))))) g') out) :
    EvF TT 37 [x0] g Qf :=
  sx_fun (rk := rk) (fn := Tryz.f37) (loops := lo37) (joins := []) (n := 100000) (args := [(27, x0)]) rfl rfl rfl rfl ⟨h0, trivial⟩ (by kernel_rfl) h
end Go.Proofs.YtgmapdcdmomioaaGreatDoor.Pa
namespace Go.Proofs.YtgmapdcdmomioaaGreatDoor.Pa
open Go Go.Proofs.YtgmapdcdmomioaaGreatDoor.Am
theorem retOf_ret (m : Nat) (l : List Dat) : RetV (retOf m l) (slOf m l) := by cases l <;> rfl
theorem byPat : TT.bytes 127 = some 64 := by kernel_rfl
theorem byExpr : TT.bytes 27 = some 104 := by kernel_rfl
theorem byStr : TT.bytes 9 = some 16 := by kernel_rfl
theorem szPat : TT.size 127 = some 5 := by kernel_rfl
theorem szExpr : TT.size 27 = some 7 := by kernel_rfl
theorem szStr : TT.size 9 = some 1 := by kernel_rfl
theorem take_snoc {α β : Type} {f : α → β} {xs : List α} {ys : List α} {i : Nat} {y : α} (hi : i < xs.length) (h : ys.map f = (xs.take i).map f) (hy : f y = f xs[i]) : (ys ++ [y]).map f = (xs.take (i + 1)).map f := by
  rw [List.map_append, h, List.take_succ_eq_append_getElem hi, List.map_append, List.map_singleton, List.map_singleton, hy]
theorem copyPats_ok : ∀ (k : Nat) (x : Dat) (g : Glob), SizeOf.sizeOf x < k → HasTy TT 25 x → ∀ (Qf : Out → Glob → Prop), (∀ l : List Dat, (∀ y ∈ l, HasTy TT 127 y) → l.length = (elsOf x).length → l.map absPt = (elsOf x).map absPt → Qf (.val (retOf 5 l)) g) → EvF TT 93 [x] g Qf
  | 0, x, g, hk, _ => by omega
  | k + 1, x, g, hk, hx => by
    intro Qf hQ
    have ex := hx.els undPats
    have exl := ex.1.1
    refine w93 hx ?_
    refine loopUp (len := (elsOf x).length) (fun i => ∀ l : List Dat, l.length = i → (∀ y ∈ l, HasTy TT 127 y) → l.map absPt = ((elsOf x).take i).map absPt → L93_3 x l (i : Int) g Qf) ?_ ?_ 0 (Nat.zero_le _) [] rfl (fun y h => by cases h) rfl
    · intro l h1 h2 h3
      refine w93_3 ?_
      rw [Br_ge]
      rw [List.take_length] at h3
      exact hQ l h2 h1 h3
    · intro i hi ih l h1 h2 h3
      refine w93_3 ?_
      rw [Br_lt hi, getE_nat hi]
      have hsz := sizeOf_el hi
      obtain ⟨k1, s1, n1, a1, p1, e1, hs1, t1⟩ := pat_ty (ex.2 _ (List.getElem_mem hi))
      have hab : absPt (elsOf x)[i] = .mk k1 s1 n1 (absPtA a1) p1 := by rw [e1]; rfl
      rw [e1] at hsz ⊢
      have hc := sizeOf_cell (cs := [.int .i64 k1, .str s1, .int .i64 n1, a1, .int .i64 p1]) (c := a1) (by simp)
      refine ⟨inB hi, copyPats_ok k a1 g (by omega) t1 _ fun l' hl' hn' ha' => ?_⟩
      have ta : HasTy TT 25 (slOf 5 l') := slOf_ty undPats szPat (by rw [hn']; exact (t1.els undPats).1) hl'
      refine ⟨slOf 5 l', ta, retOf_ret _ _, (ex.1.le (by simp; omega)).fits byPat, ?_⟩
      rw [wrap_nat (by omega)]
      refine ih _ (by simp [h1]) (fun y hy => ?_) (take_snoc hi h3 ?_)
      · rcases List.mem_append.1 hy with hy | hy
        · exact h2 y hy
        · simp only [List.mem_singleton] at hy; subst hy; exact ty_pat hs1 ta
      · rw [hab]
        show Pt.mk k1 s1 n1 (absPtA (slOf 5 l')) p1 = _
        rw [absPtA_map, slOf_els, ha', ← absPtA_map]
theorem copyExprs_ok : ∀ (k : Nat) (x : Dat) (g : Glob), SizeOf.sizeOf x < k → HasTy TT 24 x → ∀ (Qf : Out → Glob → Prop), (∀ l : List Dat, (∀ y ∈ l, HasTy TT 27 y) → l.length = (elsOf x).length → l.map absEx = (elsOf x).map absEx → Qf (.val (retOf 7 l)) g) → EvF TT 41 [x] g Qf
  | 0, x, g, hk, _ => by omega
  | k + 1, x, g, hk, hx => by
    intro Qf hQ
    have ex := hx.els undExprs
    have exl := ex.1.1
    refine w41 hx ?_
    refine loopUp (len := (elsOf x).length) (fun i => ∀ l : List Dat, l.length = i → (∀ y ∈ l, HasTy TT 27 y) → l.map absEx = ((elsOf x).take i).map absEx → L41_3 x l (i : Int) g Qf) ?_ ?_ 0 (Nat.zero_le _) [] rfl (fun y h => by cases h) rfl
    · intro l h1 h2 h3
      refine w41_3 ?_
      rw [Br_ge]
      rw [List.take_length] at h3
      exact hQ l h2 h1 h3
    · intro i hi ih l h1 h2 h3
      refine w41_3 ?_
      rw [Br_lt hi, getE_nat hi]
      have hsz := sizeOf_el hi
      obtain ⟨k1, s1, r1, n1, a1, b1, p1, e1, hs1, hr1, t1, u1⟩ := expr_ty (ex.2 _ (List.getElem_mem hi))
      have hab : absEx (elsOf x)[i] = .mk k1 s1 r1 n1 (absExA a1) (absPtA b1) p1 := by rw [e1]; rfl
      rw [e1] at hsz ⊢
      have hc := sizeOf_cell (cs := [.int .i64 k1, .str s1, .str r1, .int .i64 n1, a1, b1, .int .i64 p1]) (c := a1) (by simp)
      refine ⟨inB hi, copyExprs_ok k a1 g (by omega) t1 _ fun l' hl' hn' ha' => ?_⟩
      have ta : HasTy TT 24 (slOf 7 l') := slOf_ty undExprs szExpr (by rw [hn']; exact (t1.els undExprs).1) hl'
      refine ⟨slOf 7 l', ta, retOf_ret _ _, copyPats_ok _ b1 g (Nat.lt_succ_self _) u1 _ fun m hm hmn hma => ?_⟩
      have tb : HasTy TT 25 (slOf 5 m) := slOf_ty undPats szPat (by rw [hmn]; exact (u1.els undPats).1) hm
      refine ⟨slOf 5 m, tb, retOf_ret _ _, (ex.1.le (by simp; omega)).fits byExpr, ?_⟩
      rw [wrap_nat (by omega)]
      refine ih _ (by simp [h1]) (fun y hy => ?_) (take_snoc hi h3 ?_)
      · rcases List.mem_append.1 hy with hy | hy
        · exact h2 y hy
        · simp only [List.mem_singleton] at hy; subst hy; exact ty_expr hs1 hr1 ta tb
      · rw [hab]
        show Ex'.mk k1 s1 r1 n1 (absExA (slOf 7 l')) (absPtA (slOf 5 m)) p1 = _
        rw [absExA_map, slOf_els, ha', ← absExA_map, absPtA_map, slOf_els, hma, ← absPtA_map]
end Go.Proofs.YtgmapdcdmomioaaGreatDoor.Pa
namespace Go.Proofs.YtgmapdcdmomioaaGreatDoor.Pa
open Go Go.Proofs.YtgmapdcdmomioaaGreatDoor.Am
def lo6 : List CutI := []
theorem w6 {x0 : Dat} {x1 : Dat} {g : Glob} {Qf : Out → Glob → Prop} (h0 : HasTy TT 29 x0) (h1 : HasTy TT 29 x1)
    (h : EvF TT 21 [x0] g fun out g' => Outc (fun x => Qf (.panic x) g') (fun v => ∃ b, v = .d (.bool b) ∧ Br b (EvF TT 15 [] g' fun out g' => Outc (fun x => Qf (.panic x) g') (fun v => ∃ b, v = .d (.bool b) ∧ Qf (.val (.d (.bool b))) g') out) (EvF TT 21 [x1] g' fun out g' => Outc (fun x => Qf (.panic x) g') (fun v => ∃ b, v = .d (.bool b) ∧ Br b (EvF TT 15 [] g' fun out g' => Outc (fun x => Qf (.panic x) g') (fun v => ∃ b, v = .d (.bool b) ∧ Qf (.val (.d (.bool b))) g') out) (EvF TT 23 [x0] g' fun out g' => Outc (fun x => Qf (.panic x) g') (fun v => ∃ x, HasTy TT 29 x ∧ v = .d x ∧ EvF TT 23 [x1] g' fun out g' => Outc (fun x => Qf (.panic x) g') (fun v => ∃ x_1, HasTy TT 29 x_1 ∧ v = .d x_1 ∧ EvF TT 22 [x, x_1] g' fun out g' => Outc (fun x => Qf (.panic x) g') (fun v => ∃ b, v = .d (.bool b) ∧ EvF TT 18 [x0, x1, .bool false] g' fun out g' => Outc (fun x => Qf (.panic x) g') (fun v => ∃ b_1, v = .d (.bool b_1) ∧ Br (b == b_1) (EvF TT 23 [x0] g' fun out g' => Outc (fun x => Qf (.panic x) g') (fun v => ∃ x, HasTy TT 29 x ∧ v = .d x ∧ EvF TT 23 [x0] g' fun out g' => Outc (fun x => Qf (.panic x) g') (fun v => ∃ x_2, HasTy TT 29 x_2 ∧ v = .d x_2 ∧ EvF TT 22 [x, x_2] g' fun out g' => Outc (fun x => Qf (.panic x) g') (fun v => ∃ b, v = .d (.bool b) ∧ Br b (EvF TT 15 [] g' fun out g' => Outc (fun x => Qf (.panic x) g') (fun v => ∃ b, v = .d (.bool b) ∧ Qf (.val (.d (.bool b))) g') out) (Qf (.val (.d (.bool false))) g')) out) out) out) (Qf (.val (.d (.bool false))) g')) out) out) out) out)) out)) out) :
    EvF TT 6 [x0, x1] g Qf :=
  sx_fun (rk := rk) (fn := Tryz.f6) (loops := lo6) (joins := []) (n := 100000) (args := [(29, x0), (29, x1)]) rfl rfl rfl rfl ⟨h0, h1, trivial⟩ (by kernel_rfl) h
end Go.Proofs.YtgmapdcdmomioaaGreatDoor.Pa
namespace Go.Proofs.YtgmapdcdmomioaaGreatDoor.Pa
open Go Go.Proofs.YtgmapdcdmomioaaGreatDoor.Am
end Go.Proofs.YtgmapdcdmomioaaGreatDoor.Pa
