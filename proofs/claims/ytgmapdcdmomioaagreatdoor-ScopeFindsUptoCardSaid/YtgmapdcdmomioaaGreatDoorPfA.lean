/- How many expressions and patterns there are: the program's and the document's answers. -/
import Derived.Test.YtgmapdcdmomioaaGreatDoorPwE
import Derived.Test.YtgmapdcdmomioaaGreatDoorPeB
set_option linter.all false
set_option linter.all false
set_option autoImplicit false
set_option maxRecDepth 100000
namespace Go.Proofs.YtgmapdcdmomioaaGreatDoor.Pa
open Go Go.Proofs.YtgmapdcdmomioaaGreatDoor.Am
mutual
def szPt : Pt → Nat
  | .mk _ _ _ a _ => 1 + szPts a
def szPts : List Pt → Nat
  | [] => 0
  | x :: xs => szPt x + szPts xs
end
mutual
def szEx : Ex' → Nat
  | .mk _ _ _ _ a b _ => 1 + szPts b + szExs a
def szExs : List Ex' → Nat
  | [] => 0
  | x :: xs => szEx x + szExs xs
end
theorem szPts_drop {xs : List Dat} {i : Nat} (hi : i < xs.length) : szPts ((xs.drop i).map absPt) = szPt (absPt xs[i]) + szPts ((xs.drop (i + 1)).map absPt) := by
  rw [List.drop_eq_getElem_cons hi]; rfl
theorem szExs_drop {xs : List Dat} {i : Nat} (hi : i < xs.length) : szExs ((xs.drop i).map absEx) = szEx (absEx xs[i]) + szExs ((xs.drop (i + 1)).map absEx) := by
  rw [List.drop_eq_getElem_cons hi]; rfl
/-- What is left of so many; below 0: -1. -/
def lft (n : Int) (s : Nat) : Int := if (s : Int) ≤ n then n - s else -1
theorem lft_add (n : Int) (a b : Nat) : lft n (a + b) = lft (lft n a) b := by
  unfold lft
  repeat' split
  all_goals omega
theorem lft_lt {n : Int} (s : Nat) (h : n < 0) (h1 : -1 ≤ n) : lft n s = n := by
  unfold lft
  split <;> omega
theorem lft_rng {n : Int} (s : Nat) (h : n ≤ 2048) : -1 ≤ lft n s ∧ lft n s ≤ 2048 := by
  unfold lft
  split <;> omega
theorem patSized_ok : ∀ (k : Nat) (x : Dat) (g : Glob) (n1 : Int), SizeOf.sizeOf x < k → HasTy TT 127 x → 0 ≤ n1 → n1 ≤ 2048 → ∀ (Qf : Out → Glob → Prop), Qf (.val (.d (.int .i64 (lft n1 (szPt (absPt x)))))) g → EvF TT 143 [x, .int .i64 n1] g Qf
  | 0, x, g, n1, hk, _, _, _ => by omega
  | k + 1, x, g, n1, hk, hx, h0, h1 => by
    intro Qf hQ
    refine w143 hx ?_
    obtain ⟨k1, s1, v1, a1, p1, rfl, hs1, t1⟩ := pat_ty hx
    have ex := t1.els undPats
    have exl := ex.1.1
    have hc := sizeOf_cell (cs := [.int .i64 k1, .str s1, .int .i64 v1, a1, .int .i64 p1]) (c := a1) (by simp)
    rw [wrap_id (by omega) (by omega)]
    have hz : lft n1 (szPt (absPt (.agg [.int .i64 k1, .str s1, .int .i64 v1, a1, .int .i64 p1]))) = lft (n1 - 1) (szPts (((elsOf a1).drop 0).map absPt)) := by
      simp only [absPt, szPt, absPtA_map, List.drop_zero]
      rw [lft_add]
      congr 1
      unfold lft
      split <;> omega
    rw [hz] at hQ
    refine loopUp (len := (elsOf a1).length) (fun i => ∀ n : Int, -1 ≤ n → n ≤ 2048 → Qf (.val (.d (.int .i64 (lft n (szPts (((elsOf a1).drop i).map absPt)))))) g → L143_3 n (i : Int) (.agg [.int .i64 k1, .str s1, .int .i64 v1, a1, .int .i64 p1]) g Qf) ?_ ?_ 0 (Nat.zero_le _) (n1 - 1) (by omega) (by omega) hQ
    · intro n h0 h1 hQ
      refine w143_3 ?_
      rw [show (fld (Dat.agg [.int .i64 k1, .str s1, .int .i64 v1, a1, .int .i64 p1]) 3) = a1 from rfl, Br_ge]
      rw [List.drop_length, show lft n (szPts (([] : List Dat).map absPt)) = n from by simp only [List.map_nil, szPts, lft]; split <;> omega] at hQ
      exact hQ
    · intro i hi ih n h0 h1 hQ
      refine w143_3 ?_
      rw [show (fld (Dat.agg [.int .i64 k1, .str s1, .int .i64 v1, a1, .int .i64 p1]) 3) = a1 from rfl, Br_lt hi, getE_nat hi]
      refine Br_iff.2 ⟨fun q => ⟨inB hi, ?_⟩, fun q => ?_⟩
      · have hsz := sizeOf_el hi
        refine patSized_ok k _ g _ (by omega) (ex.2 _ (List.getElem_mem hi)) (of_decide_eq_true q) h1 _ ⟨_, rfl, ?_⟩
        rw [wrap_nat (by omega)]
        refine ih _ (lft_rng _ h1).1 (lft_rng _ h1).2 ?_
        rw [← lft_add, ← szPts_drop hi]
        exact hQ
      · rw [lft_lt _ (by have := of_decide_eq_false q; omega) h0] at hQ
        exact hQ
theorem sized_ok : ∀ (k : Nat) (x : Dat) (g : Glob) (n1 : Int), SizeOf.sizeOf x < k → HasTy TT 27 x → 0 ≤ n1 → n1 ≤ 2048 → ∀ (Qf : Out → Glob → Prop), Qf (.val (.d (.int .i64 (lft n1 (szEx (absEx x)))))) g → EvF TT 77 [x, .int .i64 n1] g Qf
  | 0, x, g, n1, hk, _, _, _ => by omega
  | k + 1, x, g, n1, hk, hx, h0, h1 => by
    intro Qf hQ
    refine w77 hx ?_
    obtain ⟨k1, s1, r1, v1, a1, b1, p1, rfl, hs1, hr1, t1, u1⟩ := expr_ty hx
    have ex := t1.els undExprs
    have exl := ex.1.1
    have eu := u1.els undPats
    have eul := eu.1.1
    have hc := sizeOf_cell (cs := [.int .i64 k1, .str s1, .str r1, .int .i64 v1, a1, b1, .int .i64 p1]) (c := a1) (by simp)
    rw [wrap_id (by omega) (by omega)]
    have hz : lft n1 (szEx (absEx (.agg [.int .i64 k1, .str s1, .str r1, .int .i64 v1, a1, b1, .int .i64 p1]))) = lft (lft (n1 - 1) (szPts (((elsOf b1).drop 0).map absPt))) (szExs (((elsOf a1).drop 0).map absEx)) := by
      simp only [absEx, szEx, absPtA_map, absExA_map, List.drop_zero]
      rw [lft_add, lft_add]
      congr 2
      unfold lft
      split <;> omega
    rw [hz] at hQ
    have args : ∀ n : Int, -1 ≤ n → n ≤ 2048 → Qf (.val (.d (.int .i64 (lft n (szExs (((elsOf a1).drop 0).map absEx)))))) g → L77_7 n 0 (.agg [.int .i64 k1, .str s1, .str r1, .int .i64 v1, a1, b1, .int .i64 p1]) g Qf := by
      refine loopUp (len := (elsOf a1).length) (fun i => ∀ n : Int, -1 ≤ n → n ≤ 2048 → Qf (.val (.d (.int .i64 (lft n (szExs (((elsOf a1).drop i).map absEx)))))) g → L77_7 n (i : Int) (.agg [.int .i64 k1, .str s1, .str r1, .int .i64 v1, a1, b1, .int .i64 p1]) g Qf) ?_ ?_ 0 (Nat.zero_le _)
      · intro n h0 h1 hQ
        refine w77_7 ?_
        rw [show (fld (Dat.agg [.int .i64 k1, .str s1, .str r1, .int .i64 v1, a1, b1, .int .i64 p1]) 4) = a1 from rfl, Br_ge]
        rw [List.drop_length, show lft n (szExs (([] : List Dat).map absEx)) = n from by simp only [List.map_nil, szExs, lft]; split <;> omega] at hQ
        exact hQ
      · intro i hi ih n h0 h1 hQ
        refine w77_7 ?_
        rw [show (fld (Dat.agg [.int .i64 k1, .str s1, .str r1, .int .i64 v1, a1, b1, .int .i64 p1]) 4) = a1 from rfl, Br_lt hi, getE_nat hi]
        refine Br_iff.2 ⟨fun q => ⟨inB hi, ?_⟩, fun q => ?_⟩
        · have hsz := sizeOf_el hi
          refine sized_ok k _ g _ (by omega) (ex.2 _ (List.getElem_mem hi)) (of_decide_eq_true q) h1 _ ⟨_, rfl, ?_⟩
          rw [wrap_nat (by omega)]
          refine ih _ (lft_rng _ h1).1 (lft_rng _ h1).2 ?_
          rw [← lft_add, ← szExs_drop hi]
          exact hQ
        · rw [lft_lt _ (by have := of_decide_eq_false q; omega) h0] at hQ
          exact hQ
    refine loopUp (len := (elsOf b1).length) (fun i => ∀ n : Int, -1 ≤ n → n ≤ 2048 → Qf (.val (.d (.int .i64 (lft (lft n (szPts (((elsOf b1).drop i).map absPt))) (szExs (((elsOf a1).drop 0).map absEx)))))) g → L77_3 n (i : Int) (.agg [.int .i64 k1, .str s1, .str r1, .int .i64 v1, a1, b1, .int .i64 p1]) g Qf) ?_ ?_ 0 (Nat.zero_le _) (n1 - 1) (by omega) (by omega) hQ
    · intro n h0 h1 hQ
      refine w77_3 ?_
      rw [show (fld (Dat.agg [.int .i64 k1, .str s1, .str r1, .int .i64 v1, a1, b1, .int .i64 p1]) 5) = b1 from rfl, Br_ge]
      rw [List.drop_length, show lft n (szPts (([] : List Dat).map absPt)) = n from by simp only [List.map_nil, szPts, lft]; split <;> omega] at hQ
      exact args n h0 h1 hQ
    · intro i hi ih n h0 h1 hQ
      refine w77_3 ?_
      rw [show (fld (Dat.agg [.int .i64 k1, .str s1, .str r1, .int .i64 v1, a1, b1, .int .i64 p1]) 5) = b1 from rfl, Br_lt hi, getE_nat hi]
      refine Br_iff.2 ⟨fun q => ⟨inB hi, ?_⟩, fun q => ?_⟩
      · refine patSized_ok _ _ g _ (Nat.lt_succ_self _) (eu.2 _ (List.getElem_mem hi)) (of_decide_eq_true q) h1 _ ⟨_, rfl, ?_⟩
        rw [wrap_nat (by omega)]
        refine ih _ (lft_rng _ h1).1 (lft_rng _ h1).2 ?_
        rw [← lft_add n, ← szPts_drop hi]
        exact hQ
      · rw [lft_lt (szPts (((elsOf b1).drop i).map absPt)) (by have := of_decide_eq_false q; omega) h0] at hQ
        exact args n h0 h1 hQ
/-- So many more, at most 2049. -/
def upto (n : Int) (s : Nat) : Int := if n + s ≤ 2048 then n + s else 2049
theorem upto_add (n : Int) (a b : Nat) : upto n (a + b) = upto (upto n a) b := by
  unfold upto
  repeat' split
  all_goals omega
theorem upto_gt {n : Int} (s : Nat) (h : 2048 < n) (h1 : n ≤ 2049) : upto n s = n := by
  unfold upto
  split <;> omega
theorem upto_rng {n : Int} (s : Nat) (h : 0 ≤ n) : 0 ≤ upto n s ∧ upto n s ≤ 2049 := by
  unfold upto
  split <;> omega
theorem sizePat_ok : ∀ (k : Nat) (x : Dat) (g : Glob) (n1 : Int), SizeOf.sizeOf x < k → HasTy TT 127 x → 0 ≤ n1 → n1 ≤ 2048 → ∀ (Qf : Out → Glob → Prop), Qf (.val (.d (.int .i64 (upto n1 (szPt (absPt x)))))) g → EvF TT 144 [x, .int .i64 n1] g Qf
  | 0, x, g, n1, hk, _, _, _ => by omega
  | k + 1, x, g, n1, hk, hx, h0, h1 => by
    intro Qf hQ
    refine w144 hx ?_
    obtain ⟨k1, s1, v1, a1, p1, rfl, hs1, t1⟩ := pat_ty hx
    have ex := t1.els undPats
    have exl := ex.1.1
    have hc := sizeOf_cell (cs := [.int .i64 k1, .str s1, .int .i64 v1, a1, .int .i64 p1]) (c := a1) (by simp)
    rw [wrap_id (by omega) (by omega)]
    have hz : upto n1 (szPt (absPt (.agg [.int .i64 k1, .str s1, .int .i64 v1, a1, .int .i64 p1]))) = upto (n1 + 1) (szPts (((elsOf a1).drop 0).map absPt)) := by
      simp only [absPt, szPt, absPtA_map, List.drop_zero]
      rw [upto_add]
      congr 1
      unfold upto
      split <;> omega
    rw [hz] at hQ
    refine loopUp (len := (elsOf a1).length) (fun i => ∀ n : Int, 0 ≤ n → n ≤ 2049 → Qf (.val (.d (.int .i64 (upto n (szPts (((elsOf a1).drop i).map absPt)))))) g → L144_3 n (i : Int) (.agg [.int .i64 k1, .str s1, .int .i64 v1, a1, .int .i64 p1]) g Qf) ?_ ?_ 0 (Nat.zero_le _) (n1 + 1) (by omega) (by omega) hQ
    · intro n h0 h1 hQ
      refine w144_3 ?_
      rw [show (fld (Dat.agg [.int .i64 k1, .str s1, .int .i64 v1, a1, .int .i64 p1]) 3) = a1 from rfl, Br_ge]
      rw [List.drop_length, show upto n (szPts (([] : List Dat).map absPt)) = n from by simp only [List.map_nil, szPts, upto]; split <;> omega] at hQ
      exact hQ
    · intro i hi ih n h0 h1 hQ
      refine w144_3 ?_
      rw [show (fld (Dat.agg [.int .i64 k1, .str s1, .int .i64 v1, a1, .int .i64 p1]) 3) = a1 from rfl, Br_lt hi, getE_nat hi]
      refine Br_iff.2 ⟨fun q => ⟨inB hi, ?_⟩, fun q => ?_⟩
      · have hsz := sizeOf_el hi
        refine sizePat_ok k _ g _ (by omega) (ex.2 _ (List.getElem_mem hi)) h0 (of_decide_eq_true q) _ ⟨_, rfl, ?_⟩
        rw [wrap_nat (by omega)]
        refine ih _ (upto_rng _ h0).1 (upto_rng _ h0).2 ?_
        rw [← upto_add, ← szPts_drop hi]
        exact hQ
      · rw [upto_gt _ (by have := of_decide_eq_false q; omega) h1] at hQ
        exact hQ
theorem sizeExpr_ok : ∀ (k : Nat) (x : Dat) (g : Glob) (n1 : Int), SizeOf.sizeOf x < k → HasTy TT 27 x → 0 ≤ n1 → n1 ≤ 2048 → ∀ (Qf : Out → Glob → Prop), Qf (.val (.d (.int .i64 (upto n1 (szEx (absEx x)))))) g → EvF TT 78 [x, .int .i64 n1] g Qf
  | 0, x, g, n1, hk, _, _, _ => by omega
  | k + 1, x, g, n1, hk, hx, h0, h1 => by
    intro Qf hQ
    refine w78 hx ?_
    obtain ⟨k1, s1, r1, v1, a1, b1, p1, rfl, hs1, hr1, t1, u1⟩ := expr_ty hx
    have ex := t1.els undExprs
    have exl := ex.1.1
    have eu := u1.els undPats
    have eul := eu.1.1
    have hc := sizeOf_cell (cs := [.int .i64 k1, .str s1, .str r1, .int .i64 v1, a1, b1, .int .i64 p1]) (c := a1) (by simp)
    rw [wrap_id (by omega) (by omega)]
    have hz : upto n1 (szEx (absEx (.agg [.int .i64 k1, .str s1, .str r1, .int .i64 v1, a1, b1, .int .i64 p1]))) = upto (upto (n1 + 1) (szPts (((elsOf b1).drop 0).map absPt))) (szExs (((elsOf a1).drop 0).map absEx)) := by
      simp only [absEx, szEx, absPtA_map, absExA_map, List.drop_zero]
      rw [upto_add, upto_add]
      congr 2
      unfold upto
      split <;> omega
    rw [hz] at hQ
    have args : ∀ n : Int, 0 ≤ n → n ≤ 2049 → Qf (.val (.d (.int .i64 (upto n (szExs (((elsOf a1).drop 0).map absEx)))))) g → L78_7 n 0 (.agg [.int .i64 k1, .str s1, .str r1, .int .i64 v1, a1, b1, .int .i64 p1]) g Qf := by
      refine loopUp (len := (elsOf a1).length) (fun i => ∀ n : Int, 0 ≤ n → n ≤ 2049 → Qf (.val (.d (.int .i64 (upto n (szExs (((elsOf a1).drop i).map absEx)))))) g → L78_7 n (i : Int) (.agg [.int .i64 k1, .str s1, .str r1, .int .i64 v1, a1, b1, .int .i64 p1]) g Qf) ?_ ?_ 0 (Nat.zero_le _)
      · intro n h0 h1 hQ
        refine w78_7 ?_
        rw [show (fld (Dat.agg [.int .i64 k1, .str s1, .str r1, .int .i64 v1, a1, b1, .int .i64 p1]) 4) = a1 from rfl, Br_ge]
        rw [List.drop_length, show upto n (szExs (([] : List Dat).map absEx)) = n from by simp only [List.map_nil, szExs, upto]; split <;> omega] at hQ
        exact hQ
      · intro i hi ih n h0 h1 hQ
        refine w78_7 ?_
        rw [show (fld (Dat.agg [.int .i64 k1, .str s1, .str r1, .int .i64 v1, a1, b1, .int .i64 p1]) 4) = a1 from rfl, Br_lt hi, getE_nat hi]
        refine Br_iff.2 ⟨fun q => ⟨inB hi, ?_⟩, fun q => ?_⟩
        · have hsz := sizeOf_el hi
          refine sizeExpr_ok k _ g _ (by omega) (ex.2 _ (List.getElem_mem hi)) h0 (of_decide_eq_true q) _ ⟨_, rfl, ?_⟩
          rw [wrap_nat (by omega)]
          refine ih _ (upto_rng _ h0).1 (upto_rng _ h0).2 ?_
          rw [← upto_add, ← szExs_drop hi]
          exact hQ
        · rw [upto_gt _ (by have := of_decide_eq_false q; omega) h1] at hQ
          exact hQ
    refine loopUp (len := (elsOf b1).length) (fun i => ∀ n : Int, 0 ≤ n → n ≤ 2049 → Qf (.val (.d (.int .i64 (upto (upto n (szPts (((elsOf b1).drop i).map absPt))) (szExs (((elsOf a1).drop 0).map absEx)))))) g → L78_3 n (i : Int) (.agg [.int .i64 k1, .str s1, .str r1, .int .i64 v1, a1, b1, .int .i64 p1]) g Qf) ?_ ?_ 0 (Nat.zero_le _) (n1 + 1) (by omega) (by omega) hQ
    · intro n h0 h1 hQ
      refine w78_3 ?_
      rw [show (fld (Dat.agg [.int .i64 k1, .str s1, .str r1, .int .i64 v1, a1, b1, .int .i64 p1]) 5) = b1 from rfl, Br_ge]
      rw [List.drop_length, show upto n (szPts (([] : List Dat).map absPt)) = n from by simp only [List.map_nil, szPts, upto]; split <;> omega] at hQ
      exact args n h0 h1 hQ
    · intro i hi ih n h0 h1 hQ
      refine w78_3 ?_
      rw [show (fld (Dat.agg [.int .i64 k1, .str s1, .str r1, .int .i64 v1, a1, b1, .int .i64 p1]) 5) = b1 from rfl, Br_lt hi, getE_nat hi]
      refine Br_iff.2 ⟨fun q => ⟨inB hi, ?_⟩, fun q => ?_⟩
      · refine sizePat_ok _ _ g _ (Nat.lt_succ_self _) (eu.2 _ (List.getElem_mem hi)) h0 (of_decide_eq_true q) _ ⟨_, rfl, ?_⟩
        rw [wrap_nat (by omega)]
        refine ih _ (upto_rng _ h0).1 (upto_rng _ h0).2 ?_
        rw [← upto_add n, ← szPts_drop hi]
        exact hQ
      · rw [upto_gt (szPts (((elsOf b1).drop i).map absPt)) (by have := of_decide_eq_false q; omega) h1] at hQ
        exact args n h0 h1 hQ
theorem parseSize_ok (x : Dat) (g : Glob) (hx : HasTy TT 29 x) (Qf : Out → Glob → Prop) (hQ : Qf (.val (.d (.int .i64 (upto 0 (szEx (absPg x).e))))) g) : EvF TT 26 [x] g Qf := by
  refine w26 hx ?_
  obtain ⟨d1, k1, s1, r1, n1, a1, b1, p1, rfl, hd1, he1⟩ := prog_ty hx
  refine sized_ok _ _ g _ (Nat.lt_succ_self _) he1 (by omega) (by omega) _ ⟨_, rfl, ?_⟩
  have e : IntKind.i64.wrap (2048 - maxS true (-1) (lft 2048 (szEx (absEx (.agg [.int .i64 k1, .str s1, .str r1, .int .i64 n1, a1, b1, .int .i64 p1]))))) = upto 0 (szEx (absEx (.agg [.int .i64 k1, .str s1, .str r1, .int .i64 n1, a1, b1, .int .i64 p1]))) := by
    have h := lft_rng (n := 2048) (szEx (absEx (.agg [.int .i64 k1, .str s1, .str r1, .int .i64 n1, a1, b1, .int .i64 p1]))) (by omega)
    have h2 : maxS true (-1) (lft 2048 (szEx (absEx (.agg [.int .i64 k1, .str s1, .str r1, .int .i64 n1, a1, b1, .int .i64 p1])))) = lft 2048 (szEx (absEx (.agg [.int .i64 k1, .str s1, .str r1, .int .i64 n1, a1, b1, .int .i64 p1]))) := by
      simp only [maxS, if_true]
      split <;> omega
    rw [h2, wrap_id (by omega) (by omega)]
    unfold lft upto
    repeat' split
    all_goals omega
  show Qf (.val (.d (.int .i64 (IntKind.i64.wrap (2048 - maxS true (-1) (lft 2048 (szEx (absEx (.agg [.int .i64 k1, .str s1, .str r1, .int .i64 n1, a1, b1, .int .i64 p1]))))))))) g
  rw [e]
  exact hQ
theorem refSize_ok (x : Dat) (g : Glob) (hx : HasTy TT 29 x) (Qf : Out → Glob → Prop) (hQ : Qf (.val (.d (.int .i64 (upto 0 (szEx (absPg x).e))))) g) : EvF TT 27 [x] g Qf := by
  refine w27 hx ?_
  obtain ⟨d1, k1, s1, r1, n1, a1, b1, p1, rfl, hd1, he1⟩ := prog_ty hx
  refine sizeExpr_ok _ _ g _ (Nat.lt_succ_self _) he1 (by omega) (by omega) _ ⟨_, rfl, ?_⟩
  have e : maxS false (upto 0 (szEx (absEx (.agg [.int .i64 k1, .str s1, .str r1, .int .i64 n1, a1, b1, .int .i64 p1])))) 2049 = upto 0 (szEx (absEx (.agg [.int .i64 k1, .str s1, .str r1, .int .i64 n1, a1, b1, .int .i64 p1]))) := by
    have h := upto_rng (n := 0) (szEx (absEx (.agg [.int .i64 k1, .str s1, .str r1, .int .i64 n1, a1, b1, .int .i64 p1]))) (by omega)
    simp only [maxS]
    split
    · rename_i h; cases h
    · split <;> omega
  show Qf (.val (.d (.int .i64 (maxS false (upto 0 (szEx (absEx (.agg [.int .i64 k1, .str s1, .str r1, .int .i64 n1, a1, b1, .int .i64 p1])))) 2049)))) g
  rw [e]
  exact hQ
end Go.Proofs.YtgmapdcdmomioaaGreatDoor.Pa
