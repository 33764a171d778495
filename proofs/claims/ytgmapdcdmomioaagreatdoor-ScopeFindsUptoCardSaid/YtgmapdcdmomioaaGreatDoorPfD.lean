/- How deep: the program's numbers, the document's tests. -/
import Derived.Test.YtgmapdcdmomioaaGreatDoorPwF
import Derived.Test.YtgmapdcdmomioaaGreatDoorPfC
set_option linter.all false
set_option linter.all false
set_option autoImplicit false
set_option maxRecDepth 100000
namespace Go.Proofs.YtgmapdcdmomioaaGreatDoor.Pa
open Go Go.Proofs.YtgmapdcdmomioaaGreatDoor.Am
theorem maxS_nat (a b : Nat) : maxS true (a : Int) (b : Int) = ((max a b : Nat) : Int) := by
  simp only [maxS, if_true]
  split <;> omega
theorem typeDeep_ok : ∀ (k : Nat) (x : Dat) (g : Glob), SizeOf.sizeOf x < k → HasTy TT 94 x → dpTy (absTy x) ≤ 601 → ∀ (Qf : Out → Glob → Prop), Qf (.val (.d (.int .i64 (dpTy (absTy x) : Nat)))) g → EvF TT 105 [x] g Qf
  | 0, x, g, hk, _, _ => by omega
  | k + 1, x, g, hk, hx, hd => by
    intro Qf hQ
    refine w105 hx ?_
    obtain ⟨k1, s1, v1, a1, rfl, hs1, t1⟩ := type_ty hx
    have ex := t1.els undTypes
    have exl := ex.1.1
    have hc := sizeOf_cell (cs := [.int .i64 k1, .str s1, .int .i64 v1, a1]) (c := a1) (by simp)
    have e2 : dpTy (absTy (.agg [.int .i64 k1, .str s1, .int .i64 v1, a1])) = 1 + dpTys (((elsOf a1).drop 0).map absTy) := by simp only [absTy, dpTy, absTyA_map, List.drop_zero]
    rw [e2] at hQ hd
    rw [show (fld (Dat.agg [.int .i64 k1, .str s1, .int .i64 v1, a1]) 3) = a1 from rfl]
    refine loopUp (len := (elsOf a1).length) (fun i => ∀ m : Nat, 1 + max m (dpTys (((elsOf a1).drop i).map absTy)) ≤ 601 → Qf (.val (.d (.int .i64 ((1 + max m (dpTys (((elsOf a1).drop i).map absTy)) : Nat))))) g → L105_3 (m : Int) a1 ((elsOf a1).length : Int) (i : Int) g Qf) ?_ ?_ 0 (Nat.zero_le _) 0 (by omega) (by rw [Nat.zero_max]; exact hQ)
    · intro m hm hQ
      refine w105_3 ?_
      rw [Br_ge, wrap_nat (by omega)]
      rw [List.drop_length] at hQ
      simp only [List.map_nil, dpTys, Nat.max_zero] at hQ
      rw [show m + 1 = 1 + m by omega]
      exact hQ
    · intro i hi ih m hm hQ
      refine w105_3 ?_
      rw [Br_lt hi, getE_nat hi]
      refine ⟨inB hi, ?_⟩
      have hsz := sizeOf_el hi
      rw [dpTys_drop hi] at hm hQ
      refine typeDeep_ok k _ g (by omega) (ex.2 _ (List.getElem_mem hi)) (by omega) _ ⟨_, rfl, ?_⟩
      rw [wrap_nat (by omega), maxS_nat]
      refine ih _ (by rw [Nat.max_assoc]; exact hm) (by rw [Nat.max_assoc]; exact hQ)
theorem patDeep_ok : ∀ (k : Nat) (x : Dat) (g : Glob), SizeOf.sizeOf x < k → HasTy TT 127 x → dpPt (absPt x) ≤ 601 → ∀ (Qf : Out → Glob → Prop), Qf (.val (.d (.int .i64 (dpPt (absPt x) : Nat)))) g → EvF TT 186 [x] g Qf
  | 0, x, g, hk, _, _ => by omega
  | k + 1, x, g, hk, hx, hd => by
    intro Qf hQ
    refine w186 hx ?_
    obtain ⟨k1, s1, v1, a1, p1, rfl, hs1, t1⟩ := pat_ty hx
    have ex := t1.els undPats
    have exl := ex.1.1
    have hc := sizeOf_cell (cs := [.int .i64 k1, .str s1, .int .i64 v1, a1, .int .i64 p1]) (c := a1) (by simp)
    have e2 : dpPt (absPt (.agg [.int .i64 k1, .str s1, .int .i64 v1, a1, .int .i64 p1])) = 1 + dpPts (((elsOf a1).drop 0).map absPt) := by simp only [absPt, dpPt, absPtA_map, List.drop_zero]
    rw [e2] at hQ hd
    rw [show (fld (Dat.agg [.int .i64 k1, .str s1, .int .i64 v1, a1, .int .i64 p1]) 3) = a1 from rfl]
    refine loopUp (len := (elsOf a1).length) (fun i => ∀ m : Nat, 1 + max m (dpPts (((elsOf a1).drop i).map absPt)) ≤ 601 → Qf (.val (.d (.int .i64 ((1 + max m (dpPts (((elsOf a1).drop i).map absPt)) : Nat))))) g → L186_3 (m : Int) a1 ((elsOf a1).length : Int) (i : Int) g Qf) ?_ ?_ 0 (Nat.zero_le _) 0 (by omega) (by rw [Nat.zero_max]; exact hQ)
    · intro m hm hQ
      refine w186_3 ?_
      rw [Br_ge, wrap_nat (by omega)]
      rw [List.drop_length] at hQ
      simp only [List.map_nil, dpPts, Nat.max_zero] at hQ
      rw [show m + 1 = 1 + m by omega]
      exact hQ
    · intro i hi ih m hm hQ
      refine w186_3 ?_
      rw [Br_lt hi, getE_nat hi]
      refine ⟨inB hi, ?_⟩
      have hsz := sizeOf_el hi
      rw [dpPts_drop hi] at hm hQ
      refine patDeep_ok k _ g (by omega) (ex.2 _ (List.getElem_mem hi)) (by omega) _ ⟨_, rfl, ?_⟩
      rw [wrap_nat (by omega), maxS_nat]
      refine ih _ (by rw [Nat.max_assoc]; exact hm) (by rw [Nat.max_assoc]; exact hQ)
theorem deep_ok : ∀ (k : Nat) (x : Dat) (g : Glob), SizeOf.sizeOf x < k → HasTy TT 27 x → dpEx (absEx x) ≤ 601 → ∀ (Qf : Out → Glob → Prop), Qf (.val (.d (.int .i64 (dpEx (absEx x) : Nat)))) g → EvF TT 104 [x] g Qf
  | 0, x, g, hk, _, _ => by omega
  | k + 1, x, g, hk, hx, hd => by
    intro Qf hQ
    refine w104 hx ?_
    obtain ⟨k1, s1, r1, v1, a1, b1, p1, rfl, hs1, hr1, t1, u1⟩ := expr_ty hx
    have ex := t1.els undExprs
    have exl := ex.1.1
    have eu := u1.els undPats
    have eul := eu.1.1
    have hc := sizeOf_cell (cs := [.int .i64 k1, .str s1, .str r1, .int .i64 v1, a1, b1, .int .i64 p1]) (c := a1) (by simp)
    have e2 : dpEx (absEx (.agg [.int .i64 k1, .str s1, .str r1, .int .i64 v1, a1, b1, .int .i64 p1])) = 1 + max (dpPts (((elsOf b1).drop 0).map absPt)) (dpExs (((elsOf a1).drop 0).map absEx)) := by simp only [absEx, dpEx, absPtA_map, absExA_map, List.drop_zero]
    rw [e2] at hQ hd
    rw [show (fld (Dat.agg [.int .i64 k1, .str s1, .str r1, .int .i64 v1, a1, b1, .int .i64 p1]) 5) = b1 from rfl]
    have args : ∀ m : Nat, 1 + max m (dpExs (((elsOf a1).drop 0).map absEx)) ≤ 601 → Qf (.val (.d (.int .i64 ((1 + max m (dpExs (((elsOf a1).drop 0).map absEx)) : Nat))))) g → L104_8 (m : Int) a1 ((elsOf a1).length : Int) 0 g Qf := by
      refine loopUp (len := (elsOf a1).length) (fun i => ∀ m : Nat, 1 + max m (dpExs (((elsOf a1).drop i).map absEx)) ≤ 601 → Qf (.val (.d (.int .i64 ((1 + max m (dpExs (((elsOf a1).drop i).map absEx)) : Nat))))) g → L104_8 (m : Int) a1 ((elsOf a1).length : Int) (i : Int) g Qf) ?_ ?_ 0 (Nat.zero_le _)
      · intro m hm hQ
        refine w104_8 ?_
        rw [Br_ge, wrap_nat (by omega)]
        rw [List.drop_length] at hQ
        simp only [List.map_nil, dpExs, Nat.max_zero] at hQ
        rw [show m + 1 = 1 + m by omega]
        exact hQ
      · intro i hi ih m hm hQ
        refine w104_8 ?_
        rw [Br_lt hi, getE_nat hi]
        refine ⟨inB hi, ?_⟩
        have hsz := sizeOf_el hi
        rw [dpExs_drop hi] at hm hQ
        refine deep_ok k _ g (by omega) (ex.2 _ (List.getElem_mem hi)) (by omega) _ ⟨_, rfl, ?_⟩
        rw [wrap_nat (by omega), maxS_nat]
        refine ih _ (by rw [Nat.max_assoc]; exact hm) (by rw [Nat.max_assoc]; exact hQ)
    refine loopUp (len := (elsOf b1).length) (fun i => ∀ m : Nat, 1 + max (max m (dpPts (((elsOf b1).drop i).map absPt))) (dpExs (((elsOf a1).drop 0).map absEx)) ≤ 601 → Qf (.val (.d (.int .i64 ((1 + max (max m (dpPts (((elsOf b1).drop i).map absPt))) (dpExs (((elsOf a1).drop 0).map absEx)) : Nat))))) g → L104_3 (m : Int) b1 ((elsOf b1).length : Int) (i : Int) (.agg [.int .i64 k1, .str s1, .str r1, .int .i64 v1, a1, b1, .int .i64 p1]) g Qf) ?_ ?_ 0 (Nat.zero_le _) 0 (by rw [Nat.zero_max]; exact hd) (by rw [Nat.zero_max]; exact hQ)
    · intro m hm hQ
      refine w104_3 ?_
      rw [Br_ge, show (fld (Dat.agg [.int .i64 k1, .str s1, .str r1, .int .i64 v1, a1, b1, .int .i64 p1]) 4) = a1 from rfl]
      rw [List.drop_length] at hQ hm
      simp only [List.map_nil, dpPts, Nat.max_zero] at hQ hm
      exact args m hm hQ
    · intro i hi ih m hm hQ
      refine w104_3 ?_
      rw [Br_lt hi, getE_nat hi]
      refine ⟨inB hi, ?_⟩
      rw [dpPts_drop hi] at hm hQ
      refine patDeep_ok _ _ g (Nat.lt_succ_self _) (eu.2 _ (List.getElem_mem hi)) (by omega) _ ⟨_, rfl, ?_⟩
      rw [wrap_nat (by omega), maxS_nat]
      refine ih _ (by rw [Nat.max_assoc m]; exact hm) (by rw [Nat.max_assoc m]; exact hQ)
theorem deepType_ok : ∀ (k : Nat) (x : Dat) (g : Glob) (l : Nat), SizeOf.sizeOf x < k → HasTy TT 94 x → l ≤ 2 ^ 20 → ∀ (Qf : Out → Glob → Prop), Qf (.val (.d (.bool (decide (l < dpTy (absTy x)))))) g → EvF TT 74 [x, .int .i64 (l : Int)] g Qf
  | 0, x, g, l, hk, _, _ => by omega
  | k + 1, x, g, l, hk, hx, hl => by
    intro Qf hQ
    refine w74 hx ?_
    obtain ⟨k1, s1, v1, a1, rfl, hs1, t1⟩ := type_ty hx
    have ex := t1.els undTypes
    have exl := ex.1.1
    have hc := sizeOf_cell (cs := [.int .i64 k1, .str s1, .int .i64 v1, a1]) (c := a1) (by simp)
    have e2 : dpTy (absTy (.agg [.int .i64 k1, .str s1, .int .i64 v1, a1])) = 1 + dpTys (((elsOf a1).drop 0).map absTy) := by simp only [absTy, dpTy, absTyA_map, List.drop_zero]
    rw [e2] at hQ
    refine Br_iff.2 ⟨fun q => ?_, fun q => ?_⟩
    · have : (l : Int) = 0 := by simpa using q
      rw [decide_eq_true (by omega)] at hQ
      exact hQ
    · have : ¬ (l : Int) = 0 := by simpa using q
      obtain ⟨l, rfl⟩ : ∃ m, l = m + 1 := ⟨l - 1, by omega⟩
      rw [show decide (l + 1 < 1 + dpTys (((elsOf a1).drop 0).map absTy)) = decide (l < dpTys (((elsOf a1).drop 0).map absTy)) from decide_eq_decide.2 (by omega)] at hQ
      refine loopUp (len := (elsOf a1).length) (fun i => Qf (.val (.d (.bool (decide (l < dpTys (((elsOf a1).drop i).map absTy)))))) g → L74_4 ((l + 1 : Nat) : Int) (i : Int) (.agg [.int .i64 k1, .str s1, .int .i64 v1, a1]) g Qf) ?_ ?_ 0 (Nat.zero_le _) hQ
      · intro hQ
        refine w74_4 ?_
        rw [show (fld (Dat.agg [.int .i64 k1, .str s1, .int .i64 v1, a1]) 3) = a1 from rfl, Br_ge]
        rw [List.drop_length] at hQ
        exact (show decide (l < dpTys (([] : List Dat).map absTy)) = false from decide_eq_false (by simp [dpTys])) ▸ hQ
      · intro i hi ih hQ
        refine w74_4 ?_
        rw [show (fld (Dat.agg [.int .i64 k1, .str s1, .int .i64 v1, a1]) 3) = a1 from rfl, Br_lt hi, getE_nat hi]
        refine ⟨inB hi, ?_⟩
        have hsz := sizeOf_el hi
        rw [show IntKind.i64.wrap (((l + 1 : Nat) : Int) - 1) = (l : Int) by rw [wrap_id (by omega) (by omega)]; omega]
        refine deepType_ok k _ g l (by omega) (ex.2 _ (List.getElem_mem hi)) (by omega) _ ⟨_, rfl, Br_iff.2 ⟨fun q => ?_, fun q => ?_⟩⟩
        · have q := of_decide_eq_true q
          rw [dpTys_drop hi, decide_eq_true (by omega)] at hQ
          exact hQ
        · have q := of_decide_eq_false q
          rw [wrap_nat (by omega)]
          refine ih ?_
          rw [dpTys_drop hi] at hQ
          exact (show decide (l < max (dpTy (absTy (elsOf a1)[i])) (dpTys (((elsOf a1).drop (i + 1)).map absTy))) = decide (l < dpTys (((elsOf a1).drop (i + 1)).map absTy)) from decide_eq_decide.2 (by omega)) ▸ hQ
theorem deepPat_ok : ∀ (k : Nat) (x : Dat) (g : Glob) (l : Nat), SizeOf.sizeOf x < k → HasTy TT 127 x → l ≤ 2 ^ 20 → ∀ (Qf : Out → Glob → Prop), Qf (.val (.d (.bool (decide (l < dpPt (absPt x)))))) g → EvF TT 193 [x, .int .i64 (l : Int)] g Qf
  | 0, x, g, l, hk, _, _ => by omega
  | k + 1, x, g, l, hk, hx, hl => by
    intro Qf hQ
    refine w193 hx ?_
    obtain ⟨k1, s1, v1, a1, p1, rfl, hs1, t1⟩ := pat_ty hx
    have ex := t1.els undPats
    have exl := ex.1.1
    have hc := sizeOf_cell (cs := [.int .i64 k1, .str s1, .int .i64 v1, a1, .int .i64 p1]) (c := a1) (by simp)
    have e2 : dpPt (absPt (.agg [.int .i64 k1, .str s1, .int .i64 v1, a1, .int .i64 p1])) = 1 + dpPts (((elsOf a1).drop 0).map absPt) := by simp only [absPt, dpPt, absPtA_map, List.drop_zero]
    rw [e2] at hQ
    refine Br_iff.2 ⟨fun q => ?_, fun q => ?_⟩
    · have : (l : Int) = 0 := by simpa using q
      rw [decide_eq_true (by omega)] at hQ
      exact hQ
    · have : ¬ (l : Int) = 0 := by simpa using q
      obtain ⟨l, rfl⟩ : ∃ m, l = m + 1 := ⟨l - 1, by omega⟩
      rw [show decide (l + 1 < 1 + dpPts (((elsOf a1).drop 0).map absPt)) = decide (l < dpPts (((elsOf a1).drop 0).map absPt)) from decide_eq_decide.2 (by omega)] at hQ
      refine loopUp (len := (elsOf a1).length) (fun i => Qf (.val (.d (.bool (decide (l < dpPts (((elsOf a1).drop i).map absPt)))))) g → L193_4 ((l + 1 : Nat) : Int) (i : Int) (.agg [.int .i64 k1, .str s1, .int .i64 v1, a1, .int .i64 p1]) g Qf) ?_ ?_ 0 (Nat.zero_le _) hQ
      · intro hQ
        refine w193_4 ?_
        rw [show (fld (Dat.agg [.int .i64 k1, .str s1, .int .i64 v1, a1, .int .i64 p1]) 3) = a1 from rfl, Br_ge]
        rw [List.drop_length] at hQ
        exact (show decide (l < dpPts (([] : List Dat).map absPt)) = false from decide_eq_false (by simp [dpPts])) ▸ hQ
      · intro i hi ih hQ
        refine w193_4 ?_
        rw [show (fld (Dat.agg [.int .i64 k1, .str s1, .int .i64 v1, a1, .int .i64 p1]) 3) = a1 from rfl, Br_lt hi, getE_nat hi]
        refine ⟨inB hi, ?_⟩
        have hsz := sizeOf_el hi
        rw [show IntKind.i64.wrap (((l + 1 : Nat) : Int) - 1) = (l : Int) by rw [wrap_id (by omega) (by omega)]; omega]
        refine deepPat_ok k _ g l (by omega) (ex.2 _ (List.getElem_mem hi)) (by omega) _ ⟨_, rfl, Br_iff.2 ⟨fun q => ?_, fun q => ?_⟩⟩
        · have q := of_decide_eq_true q
          rw [dpPts_drop hi, decide_eq_true (by omega)] at hQ
          exact hQ
        · have q := of_decide_eq_false q
          rw [wrap_nat (by omega)]
          refine ih ?_
          rw [dpPts_drop hi] at hQ
          exact (show decide (l < max (dpPt (absPt (elsOf a1)[i])) (dpPts (((elsOf a1).drop (i + 1)).map absPt))) = decide (l < dpPts (((elsOf a1).drop (i + 1)).map absPt)) from decide_eq_decide.2 (by omega)) ▸ hQ
theorem deepExpr_ok : ∀ (k : Nat) (x : Dat) (g : Glob) (l : Nat), SizeOf.sizeOf x < k → HasTy TT 27 x → l ≤ 2 ^ 20 → ∀ (Qf : Out → Glob → Prop), Qf (.val (.d (.bool (decide (l < dpEx (absEx x)))))) g → EvF TT 115 [x, .int .i64 (l : Int)] g Qf
  | 0, x, g, l, hk, _, _ => by omega
  | k + 1, x, g, l, hk, hx, hl => by
    intro Qf hQ
    refine w115 hx ?_
    obtain ⟨k1, s1, r1, v1, a1, b1, p1, rfl, hs1, hr1, t1, u1⟩ := expr_ty hx
    have ex := t1.els undExprs
    have exl := ex.1.1
    have eu := u1.els undPats
    have eul := eu.1.1
    have hc := sizeOf_cell (cs := [.int .i64 k1, .str s1, .str r1, .int .i64 v1, a1, b1, .int .i64 p1]) (c := a1) (by simp)
    have e2 : dpEx (absEx (.agg [.int .i64 k1, .str s1, .str r1, .int .i64 v1, a1, b1, .int .i64 p1])) = 1 + max (dpPts (((elsOf b1).drop 0).map absPt)) (dpExs (((elsOf a1).drop 0).map absEx)) := by simp only [absEx, dpEx, absPtA_map, absExA_map, List.drop_zero]
    rw [e2] at hQ
    refine Br_iff.2 ⟨fun q => ?_, fun q => ?_⟩
    · have : (l : Int) = 0 := by simpa using q
      rw [decide_eq_true (by omega)] at hQ
      exact hQ
    · have : ¬ (l : Int) = 0 := by simpa using q
      obtain ⟨l, rfl⟩ : ∃ m, l = m + 1 := ⟨l - 1, by omega⟩
      have hw : IntKind.i64.wrap (((l + 1 : Nat) : Int) - 1) = (l : Int) := by rw [wrap_id (by omega) (by omega)]; omega
      rw [show decide (l + 1 < 1 + max (dpPts (((elsOf b1).drop 0).map absPt)) (dpExs (((elsOf a1).drop 0).map absEx))) = decide (l < max (dpPts (((elsOf b1).drop 0).map absPt)) (dpExs (((elsOf a1).drop 0).map absEx))) from decide_eq_decide.2 (by omega)] at hQ
      have args : Qf (.val (.d (.bool (decide (l < dpExs (((elsOf a1).drop 0).map absEx)))))) g → L115_9 ((l + 1 : Nat) : Int) 0 (.agg [.int .i64 k1, .str s1, .str r1, .int .i64 v1, a1, b1, .int .i64 p1]) g Qf := by
        refine loopUp (len := (elsOf a1).length) (fun i => Qf (.val (.d (.bool (decide (l < dpExs (((elsOf a1).drop i).map absEx)))))) g → L115_9 ((l + 1 : Nat) : Int) (i : Int) (.agg [.int .i64 k1, .str s1, .str r1, .int .i64 v1, a1, b1, .int .i64 p1]) g Qf) ?_ ?_ 0 (Nat.zero_le _)
        · intro hQ
          refine w115_9 ?_
          rw [show (fld (Dat.agg [.int .i64 k1, .str s1, .str r1, .int .i64 v1, a1, b1, .int .i64 p1]) 4) = a1 from rfl, Br_ge]
          rw [List.drop_length] at hQ
          exact (show decide (l < dpExs (([] : List Dat).map absEx)) = false from decide_eq_false (by simp [dpExs])) ▸ hQ
        · intro i hi ih hQ
          refine w115_9 ?_
          rw [show (fld (Dat.agg [.int .i64 k1, .str s1, .str r1, .int .i64 v1, a1, b1, .int .i64 p1]) 4) = a1 from rfl, Br_lt hi, getE_nat hi]
          refine ⟨inB hi, ?_⟩
          have hsz := sizeOf_el hi
          rw [hw]
          refine deepExpr_ok k _ g l (by omega) (ex.2 _ (List.getElem_mem hi)) (by omega) _ ⟨_, rfl, Br_iff.2 ⟨fun q => ?_, fun q => ?_⟩⟩
          · have q := of_decide_eq_true q
            rw [dpExs_drop hi, decide_eq_true (by omega)] at hQ
            exact hQ
          · have q := of_decide_eq_false q
            rw [wrap_nat (by omega)]
            refine ih ?_
            rw [dpExs_drop hi] at hQ
            exact (show decide (l < max (dpEx (absEx (elsOf a1)[i])) (dpExs (((elsOf a1).drop (i + 1)).map absEx))) = decide (l < dpExs (((elsOf a1).drop (i + 1)).map absEx)) from decide_eq_decide.2 (by omega)) ▸ hQ
      refine loopUp (len := (elsOf b1).length) (fun i => Qf (.val (.d (.bool (decide (l < max (dpPts (((elsOf b1).drop i).map absPt)) (dpExs (((elsOf a1).drop 0).map absEx))))))) g → L115_4 ((l + 1 : Nat) : Int) (i : Int) (.agg [.int .i64 k1, .str s1, .str r1, .int .i64 v1, a1, b1, .int .i64 p1]) g Qf) ?_ ?_ 0 (Nat.zero_le _) hQ
      · intro hQ
        refine w115_4 ?_
        rw [show (fld (Dat.agg [.int .i64 k1, .str s1, .str r1, .int .i64 v1, a1, b1, .int .i64 p1]) 5) = b1 from rfl, Br_ge]
        rw [List.drop_length] at hQ
        refine args ?_
        exact (show decide (l < max (dpPts (([] : List Dat).map absPt)) (dpExs (((elsOf a1).drop 0).map absEx))) = decide (l < dpExs (((elsOf a1).drop 0).map absEx)) from decide_eq_decide.2 (by simp [dpPts])) ▸ hQ
      · intro i hi ih hQ
        refine w115_4 ?_
        rw [show (fld (Dat.agg [.int .i64 k1, .str s1, .str r1, .int .i64 v1, a1, b1, .int .i64 p1]) 5) = b1 from rfl, Br_lt hi, getE_nat hi]
        refine ⟨inB hi, ?_⟩
        rw [hw]
        refine deepPat_ok _ _ g l (Nat.lt_succ_self _) (eu.2 _ (List.getElem_mem hi)) (by omega) _ ⟨_, rfl, Br_iff.2 ⟨fun q => ?_, fun q => ?_⟩⟩
        · have q := of_decide_eq_true q
          rw [dpPts_drop hi, decide_eq_true (by omega)] at hQ
          exact hQ
        · have q := of_decide_eq_false q
          rw [wrap_nat (by omega)]
          refine ih ?_
          rw [dpPts_drop hi] at hQ
          exact (show decide (l < max (max (dpPt (absPt (elsOf b1)[i])) (dpPts (((elsOf b1).drop (i + 1)).map absPt))) (dpExs (((elsOf a1).drop 0).map absEx))) = decide (l < max (dpPts (((elsOf b1).drop (i + 1)).map absPt)) (dpExs (((elsOf a1).drop 0).map absEx))) from decide_eq_decide.2 (by omega)) ▸ hQ
end Go.Proofs.YtgmapdcdmomioaaGreatDoor.Pa
