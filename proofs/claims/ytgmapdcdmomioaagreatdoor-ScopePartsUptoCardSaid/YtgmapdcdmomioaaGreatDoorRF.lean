/- What functions of the program do, printed by wip/tools/sx/sx.py. How many expressions and patterns there are: the program's and the document's answers. What is not too large: not many nodes, not deep. A program that is not too large: its types are not. -/
import Derived.Test.YtgmapdcdmomioaaGreatDoorRD
set_option linter.all false
set_option autoImplicit false
set_option maxRecDepth 100000
namespace Go.Proofs.YtgmapdcdmomioaaGreatDoor.Pa
open Go Go.Proofs.YtgmapdcdmomioaaGreatDoor.Am
def L144_3 (n1 : Int) (n5 : Int) (y2 : Dat) (g : Glob) (Qf : Out → Glob → Prop) : Prop := CutP TT Tryz.f144 [1, 1, 0, 1, 0] Qf (mkC TT 144 Tryz.f144 2 [(1, .v 3 (.int .i64 n1)), (2, .loc 2 0 0), (5, .v 3 (.int .i64 n5))] [(2, .whole 127 y2)] g)
def lo144 : List CutI := [⟨3, [(1, .keep), (2, .keep), (5, .keep)], [(2, .whole 127)]⟩]
theorem w144 {x0 : Dat} {n1 : Int} {g : Glob} {Qf : Out → Glob → Prop} (h0 : HasTy TT 127 x0)
    (h : L144_3 (IntKind.i64.wrap (n1 + 1)) 0 x0 g Qf) :
    EvF TT 144 [x0, .int .i64 n1] g Qf :=
  sx_fun (rk := rk) (fn := Tryz.f144) (loops := lo144) (joins := []) (n := 100000) (args := [(127, x0), (3, .int .i64 n1)]) rfl rfl rfl rfl ⟨h0, tyInt rfl, trivial⟩ (by kernel_rfl) h
theorem w144_3 {n1 : Int} {n5 : Int} {y2 : Dat} {g : Glob} {Qf : Out → Glob → Prop} 
    (h : Br (decide (n5 < (↑(elsOf (fld y2 3)).length : Int))) (Br (decide (n1 ≤ 2048)) (InB n5 (elsOf (fld y2 3)).length ∧ EvF TT 144 [getE (elsOf (fld y2 3)) n5, .int .i64 n1] g fun out g' => Outc (fun x => Qf (.panic x) g') (fun v => ∃ n, v = .d (.int .i64 n) ∧ L144_3 n (IntKind.i64.wrap (n5 + 1)) y2 g' Qf) out) (Qf (.val (.d (.int .i64 n1))) g)) (Qf (.val (.d (.int .i64 n1))) g)) :
    L144_3 n1 n5 y2 g Qf := sx_cut (rk := rk) (loops := lo144) (joins := []) (n := 100000) (by kernel_rfl) h
def L78_3 (n1 : Int) (n5 : Int) (y2 : Dat) (g : Glob) (Qf : Out → Glob → Prop) : Prop := CutP TT Tryz.f78 [1, 1, 0, 1, 0] Qf (mkC TT 78 Tryz.f78 2 [(1, .v 3 (.int .i64 n1)), (2, .loc 2 0 0), (5, .v 3 (.int .i64 n5))] [(2, .whole 27 y2)] g)
def L78_7 (n1 : Int) (n6 : Int) (y2 : Dat) (g : Glob) (Qf : Out → Glob → Prop) : Prop := CutP TT Tryz.f78 [1, 1, 1, 0, 1, 0] Qf (mkC TT 78 Tryz.f78 2 [(1, .v 3 (.int .i64 n1)), (2, .loc 2 0 0), (6, .v 3 (.int .i64 n6))] [(2, .whole 27 y2)] g)
def lo78 : List CutI := [⟨3, [(1, .keep), (2, .keep), (5, .keep)], [(2, .whole 27)]⟩, ⟨7, [(1, .keep), (2, .keep), (6, .keep)], [(2, .whole 27)]⟩]
theorem w78 {x0 : Dat} {n1 : Int} {g : Glob} {Qf : Out → Glob → Prop} (h0 : HasTy TT 27 x0)
    (h : L78_3 (IntKind.i64.wrap (n1 + 1)) 0 x0 g Qf) :
    EvF TT 78 [x0, .int .i64 n1] g Qf :=
  sx_fun (rk := rk) (fn := Tryz.f78) (loops := lo78) (joins := []) (n := 100000) (args := [(27, x0), (3, .int .i64 n1)]) rfl rfl rfl rfl ⟨h0, tyInt rfl, trivial⟩ (by kernel_rfl) h
theorem w78_3 {n1 : Int} {n5 : Int} {y2 : Dat} {g : Glob} {Qf : Out → Glob → Prop} 
    (h : Br (decide (n5 < (↑(elsOf (fld y2 5)).length : Int))) (Br (decide (n1 ≤ 2048)) (InB n5 (elsOf (fld y2 5)).length ∧ EvF TT 144 [getE (elsOf (fld y2 5)) n5, .int .i64 n1] g fun out g' => Outc (fun x => Qf (.panic x) g') (fun v => ∃ n, v = .d (.int .i64 n) ∧ L78_3 n (IntKind.i64.wrap (n5 + 1)) y2 g' Qf) out) (L78_7 n1 0 y2 g Qf)) (L78_7 n1 0 y2 g Qf)) :
    L78_3 n1 n5 y2 g Qf := sx_cut (rk := rk) (loops := lo78) (joins := []) (n := 100000) (by kernel_rfl) h
theorem w78_7 {n1 : Int} {n6 : Int} {y2 : Dat} {g : Glob} {Qf : Out → Glob → Prop} 
    (h : Br (decide (n6 < (↑(elsOf (fld y2 4)).length : Int))) (Br (decide (n1 ≤ 2048)) (InB n6 (elsOf (fld y2 4)).length ∧ EvF TT 78 [getE (elsOf (fld y2 4)) n6, .int .i64 n1] g fun out g' => Outc (fun x => Qf (.panic x) g') (fun v => ∃ n, v = .d (.int .i64 n) ∧ L78_7 n (IntKind.i64.wrap (n6 + 1)) y2 g' Qf) out) (Qf (.val (.d (.int .i64 n1))) g)) (Qf (.val (.d (.int .i64 n1))) g)) :
    L78_7 n1 n6 y2 g Qf := sx_cut (rk := rk) (loops := lo78) (joins := []) (n := 100000) (by kernel_rfl) h
def lo27 : List CutI := []
theorem w27 {x0 : Dat} {g : Glob} {Qf : Out → Glob → Prop} (h0 : HasTy TT 29 x0)
    (h : EvF TT 78 [sub x0 1 7, .int .i64 0] g fun out g' => Outc (fun x => Qf (.panic x) g') (fun v => ∃ n, v = .d (.int .i64 n) ∧ Qf (.val (.d (.int .i64 (maxS false n 2049)))) g') out) :
    EvF TT 27 [x0] g Qf :=
  sx_fun (rk := rk) (fn := Tryz.f27) (loops := lo27) (joins := []) (n := 100000) (args := [(29, x0)]) rfl rfl rfl rfl ⟨h0, trivial⟩ (by kernel_rfl) h
end Go.Proofs.YtgmapdcdmomioaaGreatDoor.Pa
namespace Go.Proofs.YtgmapdcdmomioaaGreatDoor.Pa
open Go Go.Proofs.YtgmapdcdmomioaaGreatDoor.Am
mutual
def szPt : Pt → Nat
  | .mk _ _ _ a _ => 1 + szPts a
def szPts : List Pt → Nat
  | [] => 0
  | x :: xs => szPt x + szPts xs
end
mutual
def szEx : Ex' → Nat
  | .mk _ _ _ _ a b _ => 1 + szPts b + szExs a
def szExs : List Ex' → Nat
  | [] => 0
  | x :: xs => szEx x + szExs xs
end
theorem szPts_drop {xs : List Dat} {i : Nat} (hi : i < xs.length) : szPts ((xs.drop i).map absPt) = szPt (absPt xs[i]) + szPts ((xs.drop (i + 1)).map absPt) := by
  rw [List.drop_eq_getElem_cons hi]; rfl
theorem szExs_drop {xs : List Dat} {i : Nat} (hi : i < xs.length) : szExs ((xs.drop i).map absEx) = szEx (absEx xs[i]) + szExs ((xs.drop (i + 1)).map absEx) := by
  rw [List.drop_eq_getElem_cons hi]; rfl
def upto (n : Int) (s : Nat) : Int := if n + s ≤ 2048 then n + s else 2049
theorem upto_add (n : Int) (a b : Nat) : upto n (a + b) = upto (upto n a) b := by
  unfold upto
  repeat' split
  all_goals omega
theorem upto_gt {n : Int} (s : Nat) (h : 2048 < n) (h1 : n ≤ 2049) : upto n s = n := by
  unfold upto
  split <;> omega
theorem upto_rng {n : Int} (s : Nat) (h : 0 ≤ n) : 0 ≤ upto n s ∧ upto n s ≤ 2049 := by
  unfold upto
  split <;> omega
theorem sizePat_ok : ∀ (k : Nat) (x : Dat) (g : Glob) (n1 : Int), SizeOf.sizeOf x < k → HasTy TT 127 x → 0 ≤ n1 → n1 ≤ 2048 → ∀ (Qf : Out → Glob → Prop), Qf (.val (.d (.int .i64 (upto n1 (szPt (absPt x)))))) g → EvF TT 144 [x, .int .i64 n1] g Qf
  | 0, x, g, n1, hk, _, _, _ => by omega
  | k + 1, x, g, n1, hk, hx, h0, h1 => by
    intro Qf hQ
    refine w144 hx ?_
    obtain ⟨k1, s1, v1, a1, p1, rfl, hs1, t1⟩ := pat_ty hx
    have ex := t1.els undPats
    have exl := ex.1.1
    have hc := sizeOf_cell (cs := [.int .i64 k1, .str s1, .int .i64 v1, a1, .int .i64 p1]) (c := a1) (by simp)
    rw [wrap_id (by omega) (by omega)]
    have hz : upto n1 (szPt (absPt (.agg [.int .i64 k1, .str s1, .int .i64 v1, a1, .int .i64 p1]))) = upto (n1 + 1) (szPts (((elsOf a1).drop 0).map absPt)) := by
      simp only [absPt, szPt, absPtA_map, List.drop_zero]
      rw [upto_add]
      congr 1
      unfold upto
      split <;> omega
    rw [hz] at hQ
    refine loopUp (len := (elsOf a1).length) (fun i => ∀ n : Int, 0 ≤ n → n ≤ 2049 → Qf (.val (.d (.int .i64 (upto n (szPts (((elsOf a1).drop i).map absPt)))))) g → L144_3 n (i : Int) (.agg [.int .i64 k1, .str s1, .int .i64 v1, a1, .int .i64 p1]) g Qf) ?_ ?_ 0 (Nat.zero_le _) (n1 + 1) (by omega) (by omega) hQ
    · intro n h0 h1 hQ
      refine w144_3 ?_
      rw [show (fld (Dat.agg [.int .i64 k1, .str s1, .int .i64 v1, a1, .int .i64 p1]) 3) = a1 from rfl, Br_ge]
      rw [List.drop_length, show upto n (szPts (([] : List Dat).map absPt)) = n from by simp only [List.map_nil, szPts, upto]; split <;> omega] at hQ
      exact hQ
    · intro i hi ih n h0 h1 hQ
      refine w144_3 ?_
      rw [show (fld (Dat.agg [.int .i64 k1, .str s1, .int .i64 v1, a1, .int .i64 p1]) 3) = a1 from rfl, Br_lt hi, getE_nat hi]
      refine Br_iff.2 ⟨fun q => ⟨inB hi, ?_⟩, fun q => ?_⟩
      · have hsz := sizeOf_el hi
        refine sizePat_ok k _ g _ (by omega) (ex.2 _ (List.getElem_mem hi)) h0 (of_decide_eq_true q) _ ⟨_, rfl, ?_⟩
        rw [wrap_nat (by omega)]
        refine ih _ (upto_rng _ h0).1 (upto_rng _ h0).2 ?_
        rw [← upto_add, ← szPts_drop hi]
        exact hQ
      · rw [upto_gt _ (by have := of_decide_eq_false q; omega) h1] at hQ
        exact hQ
theorem sizeExpr_ok : ∀ (k : Nat) (x : Dat) (g : Glob) (n1 : Int), SizeOf.sizeOf x < k → HasTy TT 27 x → 0 ≤ n1 → n1 ≤ 2048 → ∀ (Qf : Out → Glob → Prop), Qf (.val (.d (.int .i64 (upto n1 (szEx (absEx x)))))) g → EvF TT 78 [x, .int .i64 n1] g Qf
  | 0, x, g, n1, hk, _, _, _ => by omega
  | k + 1, x, g, n1, hk, hx, h0, h1 => by
    intro Qf hQ
    refine w78 hx ?_
    obtain ⟨k1, s1, r1, v1, a1, b1, p1, rfl, hs1, hr1, t1, u1⟩ := expr_ty hx
    have ex := t1.els undExprs
    have exl := ex.1.1
    have eu := u1.els undPats
    have eul := eu.1.1
    have hc := sizeOf_cell (cs := [.int .i64 k1, .str s1, .str r1, .int .i64 v1, a1, b1, .int .i64 p1]) (c := a1) (by simp)
    rw [wrap_id (by omega) (by omega)]
    have hz : upto n1 (szEx (absEx (.agg [.int .i64 k1, .str s1, .str r1, .int .i64 v1, a1, b1, .int .i64 p1]))) = upto (upto (n1 + 1) (szPts (((elsOf b1).drop 0).map absPt))) (szExs (((elsOf a1).drop 0).map absEx)) := by
      simp only [absEx, szEx, absPtA_map, absExA_map, List.drop_zero]
      rw [upto_add, upto_add]
      congr 2
      unfold upto
      split <;> omega
    rw [hz] at hQ
    have args : ∀ n : Int, 0 ≤ n → n ≤ 2049 → Qf (.val (.d (.int .i64 (upto n (szExs (((elsOf a1).drop 0).map absEx)))))) g → L78_7 n 0 (.agg [.int .i64 k1, .str s1, .str r1, .int .i64 v1, a1, b1, .int .i64 p1]) g Qf := by
      refine loopUp (len := (elsOf a1).length) (fun i => ∀ n : Int, 0 ≤ n → n ≤ 2049 → Qf (.val (.d (.int .i64 (upto n (szExs (((elsOf a1).drop i).map absEx)))))) g → L78_7 n (i : Int) (.agg [.int .i64 k1, .str s1, .str r1, .int .i64 v1, a1, b1, .int .i64 p1]) g Qf) ?_ ?_ 0 (Nat.zero_le _)
      · intro n h0 h1 hQ
        refine w78_7 ?_
        rw [show (fld (Dat.agg [.int .i64 k1, .str s1, .str r1, .int .i64 v1, a1, b1, .int .i64 p1]) 4) = a1 from rfl, Br_ge]
        rw [List.drop_length, show upto n (szExs (([] : List Dat).map absEx)) = n from by simp only [List.map_nil, szExs, upto]; split <;> omega] at hQ
        exact hQ
      · intro i hi ih n h0 h1 hQ
        refine w78_7 ?_
        rw [show (fld (Dat.agg [.int .i64 k1, .str s1, .str r1, .int .i64 v1, a1, b1, .int .i64 p1]) 4) = a1 from rfl, Br_lt hi, getE_nat hi]
        refine Br_iff.2 ⟨fun q => ⟨inB hi, ?_⟩, fun q => ?_⟩
        · have hsz := sizeOf_el hi
          refine sizeExpr_ok k _ g _ (by omega) (ex.2 _ (List.getElem_mem hi)) h0 (of_decide_eq_true q) _ ⟨_, rfl, ?_⟩
          rw [wrap_nat (by omega)]
          refine ih _ (upto_rng _ h0).1 (upto_rng _ h0).2 ?_
          rw [← upto_add, ← szExs_drop hi]
          exact hQ
        · rw [upto_gt _ (by have := of_decide_eq_false q; omega) h1] at hQ
          exact hQ
    refine loopUp (len := (elsOf b1).length) (fun i => ∀ n : Int, 0 ≤ n → n ≤ 2049 → Qf (.val (.d (.int .i64 (upto (upto n (szPts (((elsOf b1).drop i).map absPt))) (szExs (((elsOf a1).drop 0).map absEx)))))) g → L78_3 n (i : Int) (.agg [.int .i64 k1, .str s1, .str r1, .int .i64 v1, a1, b1, .int .i64 p1]) g Qf) ?_ ?_ 0 (Nat.zero_le _) (n1 + 1) (by omega) (by omega) hQ
    · intro n h0 h1 hQ
      refine w78_3 ?_
      rw [show (fld (Dat.agg [.int .i64 k1, .str s1, .str r1, .int .i64 v1, a1, b1, .int .i64 p1]) 5) = b1 from rfl, Br_ge]
      rw [List.drop_length, show upto n (szPts (([] : List Dat).map absPt)) = n from by simp only [List.map_nil, szPts, upto]; split <;> omega] at hQ
      exact args n h0 h1 hQ
    · intro i hi ih n h0 h1 hQ
      refine w78_3 ?_
      rw [show (fld (Dat.agg [.int .i64 k1, .str s1, .str r1, .int .i64 v1, a1, b1, .int .i64 p1]) 5) = b1 from rfl, Br_lt hi, getE_nat hi]
      refine Br_iff.2 ⟨fun q => ⟨inB hi, ?_⟩, fun q => ?_⟩
      · refine sizePat_ok _ _ g _ (Nat.lt_succ_self _) (eu.2 _ (List.getElem_mem hi)) h0 (of_decide_eq_true q) _ ⟨_, rfl, ?_⟩
        rw [wrap_nat (by omega)]
        refine ih _ (upto_rng _ h0).1 (upto_rng _ h0).2 ?_
        rw [← upto_add n, ← szPts_drop hi]
        exact hQ
      · rw [upto_gt (szPts (((elsOf b1).drop i).map absPt)) (by have := of_decide_eq_false q; omega) h1] at hQ
        exact args n h0 h1 hQ
theorem refSize_ok (x : Dat) (g : Glob) (hx : HasTy TT 29 x) (Qf : Out → Glob → Prop) (hQ : Qf (.val (.d (.int .i64 (upto 0 (szEx (absPg x).e))))) g) : EvF TT 27 [x] g Qf := by
  refine w27 hx ?_
  obtain ⟨d1, k1, s1, r1, n1, a1, b1, p1, rfl, hd1, he1⟩ := prog_ty hx
  refine sizeExpr_ok _ _ g _ (Nat.lt_succ_self _) he1 (by omega) (by omega) _ ⟨_, rfl, ?_⟩
  have e : maxS false (upto 0 (szEx (absEx (.agg [.int .i64 k1, .str s1, .str r1, .int .i64 n1, a1, b1, .int .i64 p1])))) 2049 = upto 0 (szEx (absEx (.agg [.int .i64 k1, .str s1, .str r1, .int .i64 n1, a1, b1, .int .i64 p1]))) := by
    have h := upto_rng (n := 0) (szEx (absEx (.agg [.int .i64 k1, .str s1, .str r1, .int .i64 n1, a1, b1, .int .i64 p1]))) (by omega)
    simp only [maxS]
    split
    · rename_i h; cases h
    · split <;> omega
  show Qf (.val (.d (.int .i64 (maxS false (upto 0 (szEx (absEx (.agg [.int .i64 k1, .str s1, .str r1, .int .i64 n1, a1, b1, .int .i64 p1])))) 2049)))) g
  rw [e]
  exact hQ
end Go.Proofs.YtgmapdcdmomioaaGreatDoor.Pa
namespace Go.Proofs.YtgmapdcdmomioaaGreatDoor.Pa
open Go Go.Proofs.YtgmapdcdmomioaaGreatDoor.Am
mutual
def dpPt : Pt → Nat
  | .mk _ _ _ a _ => 1 + dpPts a
def dpPts : List Pt → Nat
  | [] => 0
  | x :: xs => max (dpPt x) (dpPts xs)
end
mutual
def dpEx : Ex' → Nat
  | .mk _ _ _ _ a b _ => 1 + max (dpPts b) (dpExs a)
def dpExs : List Ex' → Nat
  | [] => 0
  | x :: xs => max (dpEx x) (dpExs xs)
end
theorem dpPts_drop {xs : List Dat} {i : Nat} (hi : i < xs.length) : dpPts ((xs.drop i).map absPt) = max (dpPt (absPt xs[i])) (dpPts ((xs.drop (i + 1)).map absPt)) := by
  rw [List.drop_eq_getElem_cons hi]; rfl
theorem dpExs_drop {xs : List Dat} {i : Nat} (hi : i < xs.length) : dpExs ((xs.drop i).map absEx) = max (dpEx (absEx xs[i])) (dpExs ((xs.drop (i + 1)).map absEx)) := by
  rw [List.drop_eq_getElem_cons hi]; rfl
theorem tdiv10 (n : Nat) : (n : Int).tdiv 10 = ((n / 10 : Nat) : Int) := rfl
theorem weighPat_all : ∀ (k : Nat) (x : Dat) (g : Glob) (d n : Int), SizeOf.sizeOf x < k → HasTy TT 127 x → 0 ≤ d → d ≤ 601 → 0 ≤ n → n ≤ 20000 →
    ∀ (Qf : Out → Glob → Prop), (∀ r : Int, -1 ≤ r → r ≤ 20000 → (0 ≤ r → n + szPt (absPt x) ≤ r ∧ d + dpPt (absPt x) ≤ 601) → Qf (.val (.d (.int .i64 r))) g) → EvF TT 159 [x, .int .i64 d, .int .i64 n] g Qf
  | 0, x, g, d, n, hk, _, _, _, _, _ => by omega
  | k + 1, x, g, d, n, hk, hx, d0, d1, h0, h1 => by
    intro Qf hQ
    obtain ⟨k1, s1, v1, a1, p1, rfl, hs1, t1⟩ := pat_ty hx
    have ex := t1.els undPats
    have exl := ex.1.1
    have hc := sizeOf_cell (cs := [.int .i64 k1, .str s1, .int .i64 v1, a1, .int .i64 p1]) (c := a1) (by simp)
    have hw : IntKind.i64.wrap (n + IntKind.i64.wrap (1 + IntKind.i64.wrap ((↑(elsOf a1).length : Int).tdiv 10))) = n + (1 + (((elsOf a1).length / 10 : Nat) : Int)) := by
      rw [tdiv10, wrap_id (n := (((elsOf a1).length / 10 : Nat) : Int)) (by omega) (by omega), wrap_id (n := 1 + (((elsOf a1).length / 10 : Nat) : Int)) (by omega) (by omega), wrap_id (by omega) (by omega)]
    refine w159 hx ⟨neZ (by decide), ?_⟩
    rw [show (fld (Dat.agg [.int .i64 k1, .str s1, .int .i64 v1, a1, .int .i64 p1]) 3) = a1 from rfl, hw]
    refine Br_iff.2 ⟨fun _ => hQ _ (by omega) (by omega) (fun h => by omega), fun q1 => Br_iff.2 ⟨fun _ => hQ _ (by omega) (by omega) (fun h => by omega), fun q2 => ?_⟩⟩
    have q1 := of_decide_eq_false q1
    have q2 := of_decide_eq_false q2
    have e1 : szPt (absPt (.agg [.int .i64 k1, .str s1, .int .i64 v1, a1, .int .i64 p1])) = 1 + szPts (((elsOf a1).drop 0).map absPt) := by simp only [absPt, szPt, absPtA_map, List.drop_zero]
    have e2 : dpPt (absPt (.agg [.int .i64 k1, .str s1, .int .i64 v1, a1, .int .i64 p1])) = 1 + dpPts (((elsOf a1).drop 0).map absPt) := by simp only [absPt, dpPt, absPtA_map, List.drop_zero]
    rw [e1, e2] at hQ
    refine loopUp (len := (elsOf a1).length) (fun i => ∀ m : Int, -1 ≤ m → m ≤ 20000 → (∀ r : Int, -1 ≤ r → r ≤ 20000 → (0 ≤ r → 0 ≤ m ∧ m + szPts (((elsOf a1).drop i).map absPt) ≤ r ∧ d + (1 + dpPts (((elsOf a1).drop i).map absPt)) ≤ 601) → Qf (.val (.d (.int .i64 r))) g) → L159_5 d m (i : Int) (.agg [.int .i64 k1, .str s1, .int .i64 v1, a1, .int .i64 p1]) g Qf) ?_ ?_ 0 (Nat.zero_le _) _ (by omega) (by omega) (fun r r0 r1 h => hQ r r0 r1 fun hr => ⟨by have := (h hr).2.1; omega, by have := (h hr).2.2; omega⟩)
    · intro m m0 m1 hQ
      refine w159_5 ?_
      rw [show (fld (Dat.agg [.int .i64 k1, .str s1, .int .i64 v1, a1, .int .i64 p1]) 3) = a1 from rfl, Br_ge]
      exact hQ _ m0 m1 fun hr => by rw [List.drop_length]; simp only [List.map_nil, szPts, dpPts]; omega
    · intro i hi ih m m0 m1 hQ
      refine w159_5 ?_
      rw [show (fld (Dat.agg [.int .i64 k1, .str s1, .int .i64 v1, a1, .int .i64 p1]) 3) = a1 from rfl, Br_lt hi, getE_nat hi]
      refine Br_iff.2 ⟨fun q => ⟨inB hi, ?_⟩, fun q => hQ _ m0 m1 fun hr => by have := of_decide_eq_false q; omega⟩
      have hsz := sizeOf_el hi
      rw [wrap_id (by omega) (by omega)]
      refine weighPat_all k _ g _ _ (by omega) (ex.2 _ (List.getElem_mem hi)) (by omega) (by omega) (of_decide_eq_true q) m1 _ fun r r0 r1 hr => ⟨_, rfl, ?_⟩
      rw [wrap_nat (by omega)]
      refine ih r r0 r1 fun r' s0 s1 hr' => hQ r' s0 s1 fun h' => ?_
      rw [szPts_drop hi, dpPts_drop hi]
      have a := hr' h'
      have b := hr a.1
      have c := of_decide_eq_true q
      omega
theorem weighExpr_all : ∀ (k : Nat) (x : Dat) (g : Glob) (d n : Int), SizeOf.sizeOf x < k → HasTy TT 27 x → 0 ≤ d → d ≤ 601 → 0 ≤ n → n ≤ 20000 →
    ∀ (Qf : Out → Glob → Prop), (∀ r : Int, -1 ≤ r → r ≤ 20000 → (0 ≤ r → n + szEx (absEx x) ≤ r ∧ d + dpEx (absEx x) ≤ 601) → Qf (.val (.d (.int .i64 r))) g) → EvF TT 88 [x, .int .i64 d, .int .i64 n] g Qf
  | 0, x, g, d, n, hk, _, _, _, _, _ => by omega
  | k + 1, x, g, d, n, hk, hx, d0, d1, h0, h1 => by
    intro Qf hQ
    obtain ⟨k1, s1, r1, v1, a1, b1, p1, rfl, hs1, hr1, t1, u1⟩ := expr_ty hx
    have ex := t1.els undExprs
    have exl := ex.1.1
    have eu := u1.els undPats
    have eul := eu.1.1
    have hc := sizeOf_cell (cs := [.int .i64 k1, .str s1, .str r1, .int .i64 v1, a1, b1, .int .i64 p1]) (c := a1) (by simp)
    have hw : IntKind.i64.wrap (n + IntKind.i64.wrap (IntKind.i64.wrap (1 + IntKind.i64.wrap ((↑(elsOf a1).length : Int).tdiv 10)) + IntKind.i64.wrap ((↑(elsOf b1).length : Int).tdiv 10))) = n + ((1 + (((elsOf a1).length / 10 : Nat) : Int)) + (((elsOf b1).length / 10 : Nat) : Int)) := by
      rw [tdiv10, tdiv10, wrap_id (n := (((elsOf a1).length / 10 : Nat) : Int)) (by omega) (by omega), wrap_id (n := (((elsOf b1).length / 10 : Nat) : Int)) (by omega) (by omega), wrap_id (n := 1 + (((elsOf a1).length / 10 : Nat) : Int)) (by omega) (by omega), wrap_id (n := (1 + (((elsOf a1).length / 10 : Nat) : Int)) + (((elsOf b1).length / 10 : Nat) : Int)) (by omega) (by omega), wrap_id (by omega) (by omega)]
    refine w88 hx ⟨neZ (by decide), neZ (by decide), ?_⟩
    rw [show (fld (Dat.agg [.int .i64 k1, .str s1, .str r1, .int .i64 v1, a1, b1, .int .i64 p1]) 4) = a1 from rfl, show (fld (Dat.agg [.int .i64 k1, .str s1, .str r1, .int .i64 v1, a1, b1, .int .i64 p1]) 5) = b1 from rfl, hw]
    refine Br_iff.2 ⟨fun _ => hQ _ (by omega) (by omega) (fun h => by omega), fun q1 => Br_iff.2 ⟨fun _ => hQ _ (by omega) (by omega) (fun h => by omega), fun q2 => ?_⟩⟩
    have q1 := of_decide_eq_false q1
    have q2 := of_decide_eq_false q2
    have e1 : szEx (absEx (.agg [.int .i64 k1, .str s1, .str r1, .int .i64 v1, a1, b1, .int .i64 p1])) = 1 + szPts (((elsOf b1).drop 0).map absPt) + szExs (((elsOf a1).drop 0).map absEx) := by simp only [absEx, szEx, absPtA_map, absExA_map, List.drop_zero]
    have e2 : dpEx (absEx (.agg [.int .i64 k1, .str s1, .str r1, .int .i64 v1, a1, b1, .int .i64 p1])) = 1 + max (dpPts (((elsOf b1).drop 0).map absPt)) (dpExs (((elsOf a1).drop 0).map absEx)) := by simp only [absEx, dpEx, absPtA_map, absExA_map, List.drop_zero]
    rw [e1, e2] at hQ
    have args : ∀ m : Int, -1 ≤ m → m ≤ 20000 → (∀ r : Int, -1 ≤ r → r ≤ 20000 → (0 ≤ r → 0 ≤ m ∧ m + szExs (((elsOf a1).drop 0).map absEx) ≤ r ∧ d + (1 + dpExs (((elsOf a1).drop 0).map absEx)) ≤ 601) → Qf (.val (.d (.int .i64 r))) g) → L88_9 d m 0 (.agg [.int .i64 k1, .str s1, .str r1, .int .i64 v1, a1, b1, .int .i64 p1]) g Qf := by
      refine loopUp (len := (elsOf a1).length) (fun i => ∀ m : Int, -1 ≤ m → m ≤ 20000 → (∀ r : Int, -1 ≤ r → r ≤ 20000 → (0 ≤ r → 0 ≤ m ∧ m + szExs (((elsOf a1).drop i).map absEx) ≤ r ∧ d + (1 + dpExs (((elsOf a1).drop i).map absEx)) ≤ 601) → Qf (.val (.d (.int .i64 r))) g) → L88_9 d m (i : Int) (.agg [.int .i64 k1, .str s1, .str r1, .int .i64 v1, a1, b1, .int .i64 p1]) g Qf) ?_ ?_ 0 (Nat.zero_le _)
      · intro m m0 m1 hQ
        refine w88_9 ?_
        rw [show (fld (Dat.agg [.int .i64 k1, .str s1, .str r1, .int .i64 v1, a1, b1, .int .i64 p1]) 4) = a1 from rfl, Br_ge]
        exact hQ _ m0 m1 fun hr => by rw [List.drop_length]; simp only [List.map_nil, szExs, dpExs]; omega
      · intro i hi ih m m0 m1 hQ
        refine w88_9 ?_
        rw [show (fld (Dat.agg [.int .i64 k1, .str s1, .str r1, .int .i64 v1, a1, b1, .int .i64 p1]) 4) = a1 from rfl, Br_lt hi, getE_nat hi]
        refine Br_iff.2 ⟨fun q => ⟨inB hi, ?_⟩, fun q => hQ _ m0 m1 fun hr => by have := of_decide_eq_false q; omega⟩
        have hsz := sizeOf_el hi
        rw [wrap_id (by omega) (by omega)]
        refine weighExpr_all k _ g _ _ (by omega) (ex.2 _ (List.getElem_mem hi)) (by omega) (by omega) (of_decide_eq_true q) m1 _ fun r r0 r1 hr => ⟨_, rfl, ?_⟩
        rw [wrap_nat (by omega)]
        refine ih r r0 r1 fun r' s0 s1 hr' => hQ r' s0 s1 fun h' => ?_
        rw [szExs_drop hi, dpExs_drop hi]
        have a := hr' h'
        have b := hr a.1
        have c := of_decide_eq_true q
        omega
    refine loopUp (len := (elsOf b1).length) (fun i => ∀ m : Int, -1 ≤ m → m ≤ 20000 → (∀ r : Int, -1 ≤ r → r ≤ 20000 → (0 ≤ r → 0 ≤ m ∧ m + szPts (((elsOf b1).drop i).map absPt) + szExs (((elsOf a1).drop 0).map absEx) ≤ r ∧ d + (1 + max (dpPts (((elsOf b1).drop i).map absPt)) (dpExs (((elsOf a1).drop 0).map absEx))) ≤ 601) → Qf (.val (.d (.int .i64 r))) g) → L88_5 d m (i : Int) (.agg [.int .i64 k1, .str s1, .str r1, .int .i64 v1, a1, b1, .int .i64 p1]) g Qf) ?_ ?_ 0 (Nat.zero_le _) _ (by omega) (by omega) (fun r r0 r1 h => hQ r r0 r1 fun hr => ⟨by have := (h hr).2.1; omega, by have := (h hr).2.2; omega⟩)
    · intro m m0 m1 hQ
      refine w88_5 ?_
      rw [show (fld (Dat.agg [.int .i64 k1, .str s1, .str r1, .int .i64 v1, a1, b1, .int .i64 p1]) 5) = b1 from rfl, Br_ge]
      refine args m m0 m1 fun r r0 r1 h => hQ r r0 r1 fun hr => ?_
      rw [List.drop_length]
      have := h hr
      simp only [List.map_nil, szPts, dpPts]
      omega
    · intro i hi ih m m0 m1 hQ
      refine w88_5 ?_
      rw [show (fld (Dat.agg [.int .i64 k1, .str s1, .str r1, .int .i64 v1, a1, b1, .int .i64 p1]) 5) = b1 from rfl, Br_lt hi, getE_nat hi]
      refine Br_iff.2 ⟨fun q => ⟨inB hi, ?_⟩, fun q => args m m0 m1 fun r r0 r1 h => hQ r r0 r1 fun hr => by have := of_decide_eq_false q; have := h hr; omega⟩
      rw [wrap_id (by omega) (by omega)]
      refine weighPat_all _ _ g _ _ (Nat.lt_succ_self _) (eu.2 _ (List.getElem_mem hi)) (by omega) (by omega) (of_decide_eq_true q) m1 _ fun r r0 r1 hr => ⟨_, rfl, ?_⟩
      rw [wrap_nat (by omega)]
      refine ih r r0 r1 fun r' s0 s1 hr' => hQ r' s0 s1 fun h' => ?_
      rw [szPts_drop hi, dpPts_drop hi]
      have a := hr' h'
      have b := hr a.1
      have c := of_decide_eq_true q
      omega
end Go.Proofs.YtgmapdcdmomioaaGreatDoor.Pa
namespace Go.Proofs.YtgmapdcdmomioaaGreatDoor.Pa
open Go Go.Proofs.YtgmapdcdmomioaaGreatDoor.Am
end Go.Proofs.YtgmapdcdmomioaaGreatDoor.Pa
