/- What is not too large: not many nodes, not deep. -/
import Derived.Test.YtgmapdcdmomioaaGreatDoorPfA
set_option linter.all false
set_option linter.all false
set_option autoImplicit false
set_option maxRecDepth 100000
namespace Go.Proofs.YtgmapdcdmomioaaGreatDoor.Pa
open Go Go.Proofs.YtgmapdcdmomioaaGreatDoor.Am
mutual
def ndTy : Ty → Nat
  | .mk _ _ _ a => 1 + ndTys a
def ndTys : List Ty → Nat
  | [] => 0
  | x :: xs => ndTy x + ndTys xs
end
mutual
def dpTy : Ty → Nat
  | .mk _ _ _ a => 1 + dpTys a
def dpTys : List Ty → Nat
  | [] => 0
  | x :: xs => max (dpTy x) (dpTys xs)
end
mutual
def dpPt : Pt → Nat
  | .mk _ _ _ a _ => 1 + dpPts a
def dpPts : List Pt → Nat
  | [] => 0
  | x :: xs => max (dpPt x) (dpPts xs)
end
mutual
def dpEx : Ex' → Nat
  | .mk _ _ _ _ a b _ => 1 + max (dpPts b) (dpExs a)
def dpExs : List Ex' → Nat
  | [] => 0
  | x :: xs => max (dpEx x) (dpExs xs)
end
theorem ndTys_drop {xs : List Dat} {i : Nat} (hi : i < xs.length) : ndTys ((xs.drop i).map absTy) = ndTy (absTy xs[i]) + ndTys ((xs.drop (i + 1)).map absTy) := by
  rw [List.drop_eq_getElem_cons hi]; rfl
theorem dpTys_drop {xs : List Dat} {i : Nat} (hi : i < xs.length) : dpTys ((xs.drop i).map absTy) = max (dpTy (absTy xs[i])) (dpTys ((xs.drop (i + 1)).map absTy)) := by
  rw [List.drop_eq_getElem_cons hi]; rfl
theorem dpPts_drop {xs : List Dat} {i : Nat} (hi : i < xs.length) : dpPts ((xs.drop i).map absPt) = max (dpPt (absPt xs[i])) (dpPts ((xs.drop (i + 1)).map absPt)) := by
  rw [List.drop_eq_getElem_cons hi]; rfl
theorem dpExs_drop {xs : List Dat} {i : Nat} (hi : i < xs.length) : dpExs ((xs.drop i).map absEx) = max (dpEx (absEx xs[i])) (dpExs ((xs.drop (i + 1)).map absEx)) := by
  rw [List.drop_eq_getElem_cons hi]; rfl
theorem tdiv10 (n : Nat) : (n : Int).tdiv 10 = ((n / 10 : Nat) : Int) := rfl
theorem weighType_all : ∀ (k : Nat) (x : Dat) (g : Glob) (d n : Int), SizeOf.sizeOf x < k → HasTy TT 94 x → 0 ≤ d → d ≤ 601 → 0 ≤ n → n ≤ 20000 →
    ∀ (Qf : Out → Glob → Prop), (∀ r : Int, -1 ≤ r → r ≤ 20000 → (0 ≤ r → n + ndTy (absTy x) ≤ r ∧ d + dpTy (absTy x) ≤ 601) → Qf (.val (.d (.int .i64 r))) g) → EvF TT 125 [x, .int .i64 d, .int .i64 n] g Qf
  | 0, x, g, d, n, hk, _, _, _, _, _ => by omega
  | k + 1, x, g, d, n, hk, hx, d0, d1, h0, h1 => by
    intro Qf hQ
    obtain ⟨k1, s1, v1, a1, rfl, hs1, t1⟩ := type_ty hx
    have ex := t1.els undTypes
    have exl := ex.1.1
    have hc := sizeOf_cell (cs := [.int .i64 k1, .str s1, .int .i64 v1, a1]) (c := a1) (by simp)
    have hw : IntKind.i64.wrap (n + IntKind.i64.wrap (1 + IntKind.i64.wrap ((↑(elsOf a1).length : Int).tdiv 10))) = n + (1 + (((elsOf a1).length / 10 : Nat) : Int)) := by
      rw [tdiv10, wrap_id (n := (((elsOf a1).length / 10 : Nat) : Int)) (by omega) (by omega), wrap_id (n := 1 + (((elsOf a1).length / 10 : Nat) : Int)) (by omega) (by omega), wrap_id (by omega) (by omega)]
    refine w125 hx ⟨neZ (by decide), ?_⟩
    rw [show (fld (Dat.agg [.int .i64 k1, .str s1, .int .i64 v1, a1]) 3) = a1 from rfl, hw]
    refine Br_iff.2 ⟨fun _ => hQ _ (by omega) (by omega) (fun h => by omega), fun q1 => Br_iff.2 ⟨fun _ => hQ _ (by omega) (by omega) (fun h => by omega), fun q2 => ?_⟩⟩
    have q1 := of_decide_eq_false q1
    have q2 := of_decide_eq_false q2
    have e1 : ndTy (absTy (.agg [.int .i64 k1, .str s1, .int .i64 v1, a1])) = 1 + ndTys (((elsOf a1).drop 0).map absTy) := by simp only [absTy, ndTy, absTyA_map, List.drop_zero]
    have e2 : dpTy (absTy (.agg [.int .i64 k1, .str s1, .int .i64 v1, a1])) = 1 + dpTys (((elsOf a1).drop 0).map absTy) := by simp only [absTy, dpTy, absTyA_map, List.drop_zero]
    rw [e1, e2] at hQ
    refine loopUp (len := (elsOf a1).length) (fun i => ∀ m : Int, -1 ≤ m → m ≤ 20000 → (∀ r : Int, -1 ≤ r → r ≤ 20000 → (0 ≤ r → 0 ≤ m ∧ m + ndTys (((elsOf a1).drop i).map absTy) ≤ r ∧ d + (1 + dpTys (((elsOf a1).drop i).map absTy)) ≤ 601) → Qf (.val (.d (.int .i64 r))) g) → L125_5 d m (i : Int) (.agg [.int .i64 k1, .str s1, .int .i64 v1, a1]) g Qf) ?_ ?_ 0 (Nat.zero_le _) _ (by omega) (by omega) (fun r r0 r1 h => hQ r r0 r1 fun hr => ⟨by have := (h hr).2.1; omega, by have := (h hr).2.2; omega⟩)
    · intro m m0 m1 hQ
      refine w125_5 ?_
      rw [show (fld (Dat.agg [.int .i64 k1, .str s1, .int .i64 v1, a1]) 3) = a1 from rfl, Br_ge]
      exact hQ _ m0 m1 fun hr => by rw [List.drop_length]; simp only [List.map_nil, ndTys, dpTys]; omega
    · intro i hi ih m m0 m1 hQ
      refine w125_5 ?_
      rw [show (fld (Dat.agg [.int .i64 k1, .str s1, .int .i64 v1, a1]) 3) = a1 from rfl, Br_lt hi, getE_nat hi]
      refine Br_iff.2 ⟨fun q => ⟨inB hi, ?_⟩, fun q => hQ _ m0 m1 fun hr => by have := of_decide_eq_false q; omega⟩
      have hsz := sizeOf_el hi
      rw [wrap_id (by omega) (by omega)]
      refine weighType_all k _ g _ _ (by omega) (ex.2 _ (List.getElem_mem hi)) (by omega) (by omega) (of_decide_eq_true q) m1 _ fun r r0 r1 hr => ⟨_, rfl, ?_⟩
      rw [wrap_nat (by omega)]
      refine ih r r0 r1 fun r' s0 s1 hr' => hQ r' s0 s1 fun h' => ?_
      rw [ndTys_drop hi, dpTys_drop hi]
      have a := hr' h'
      have b := hr a.1
      have c := of_decide_eq_true q
      omega
theorem weighPat_all : ∀ (k : Nat) (x : Dat) (g : Glob) (d n : Int), SizeOf.sizeOf x < k → HasTy TT 127 x → 0 ≤ d → d ≤ 601 → 0 ≤ n → n ≤ 20000 →
    ∀ (Qf : Out → Glob → Prop), (∀ r : Int, -1 ≤ r → r ≤ 20000 → (0 ≤ r → n + szPt (absPt x) ≤ r ∧ d + dpPt (absPt x) ≤ 601) → Qf (.val (.d (.int .i64 r))) g) → EvF TT 159 [x, .int .i64 d, .int .i64 n] g Qf
  | 0, x, g, d, n, hk, _, _, _, _, _ => by omega
  | k + 1, x, g, d, n, hk, hx, d0, d1, h0, h1 => by
    intro Qf hQ
    obtain ⟨k1, s1, v1, a1, p1, rfl, hs1, t1⟩ := pat_ty hx
    have ex := t1.els undPats
    have exl := ex.1.1
    have hc := sizeOf_cell (cs := [.int .i64 k1, .str s1, .int .i64 v1, a1, .int .i64 p1]) (c := a1) (by simp)
    have hw : IntKind.i64.wrap (n + IntKind.i64.wrap (1 + IntKind.i64.wrap ((↑(elsOf a1).length : Int).tdiv 10))) = n + (1 + (((elsOf a1).length / 10 : Nat) : Int)) := by
      rw [tdiv10, wrap_id (n := (((elsOf a1).length / 10 : Nat) : Int)) (by omega) (by omega), wrap_id (n := 1 + (((elsOf a1).length / 10 : Nat) : Int)) (by omega) (by omega), wrap_id (by omega) (by omega)]
    refine w159 hx ⟨neZ (by decide), ?_⟩
    rw [show (fld (Dat.agg [.int .i64 k1, .str s1, .int .i64 v1, a1, .int .i64 p1]) 3) = a1 from rfl, hw]
    refine Br_iff.2 ⟨fun _ => hQ _ (by omega) (by omega) (fun h => by omega), fun q1 => Br_iff.2 ⟨fun _ => hQ _ (by omega) (by omega) (fun h => by omega), fun q2 => ?_⟩⟩
    have q1 := of_decide_eq_false q1
    have q2 := of_decide_eq_false q2
    have e1 : szPt (absPt (.agg [.int .i64 k1, .str s1, .int .i64 v1, a1, .int .i64 p1])) = 1 + szPts (((elsOf a1).drop 0).map absPt) := by simp only [absPt, szPt, absPtA_map, List.drop_zero]
    have e2 : dpPt (absPt (.agg [.int .i64 k1, .str s1, .int .i64 v1, a1, .int .i64 p1])) = 1 + dpPts (((elsOf a1).drop 0).map absPt) := by simp only [absPt, dpPt, absPtA_map, List.drop_zero]
    rw [e1, e2] at hQ
    refine loopUp (len := (elsOf a1).length) (fun i => ∀ m : Int, -1 ≤ m → m ≤ 20000 → (∀ r : Int, -1 ≤ r → r ≤ 20000 → (0 ≤ r → 0 ≤ m ∧ m + szPts (((elsOf a1).drop i).map absPt) ≤ r ∧ d + (1 + dpPts (((elsOf a1).drop i).map absPt)) ≤ 601) → Qf (.val (.d (.int .i64 r))) g) → L159_5 d m (i : Int) (.agg [.int .i64 k1, .str s1, .int .i64 v1, a1, .int .i64 p1]) g Qf) ?_ ?_ 0 (Nat.zero_le _) _ (by omega) (by omega) (fun r r0 r1 h => hQ r r0 r1 fun hr => ⟨by have := (h hr).2.1; omega, by have := (h hr).2.2; omega⟩)
    · intro m m0 m1 hQ
      refine w159_5 ?_
      rw [show (fld (Dat.agg [.int .i64 k1, .str s1, .int .i64 v1, a1, .int .i64 p1]) 3) = a1 from rfl, Br_ge]
      exact hQ _ m0 m1 fun hr => by rw [List.drop_length]; simp only [List.map_nil, szPts, dpPts]; omega
    · intro i hi ih m m0 m1 hQ
      refine w159_5 ?_
      rw [show (fld (Dat.agg [.int .i64 k1, .str s1, .int .i64 v1, a1, .int .i64 p1]) 3) = a1 from rfl, Br_lt hi, getE_nat hi]
      refine Br_iff.2 ⟨fun q => ⟨inB hi, ?_⟩, fun q => hQ _ m0 m1 fun hr => by have := of_decide_eq_false q; omega⟩
      have hsz := sizeOf_el hi
      rw [wrap_id (by omega) (by omega)]
      refine weighPat_all k _ g _ _ (by omega) (ex.2 _ (List.getElem_mem hi)) (by omega) (by omega) (of_decide_eq_true q) m1 _ fun r r0 r1 hr => ⟨_, rfl, ?_⟩
      rw [wrap_nat (by omega)]
      refine ih r r0 r1 fun r' s0 s1 hr' => hQ r' s0 s1 fun h' => ?_
      rw [szPts_drop hi, dpPts_drop hi]
      have a := hr' h'
      have b := hr a.1
      have c := of_decide_eq_true q
      omega
theorem weighExpr_all : ∀ (k : Nat) (x : Dat) (g : Glob) (d n : Int), SizeOf.sizeOf x < k → HasTy TT 27 x → 0 ≤ d → d ≤ 601 → 0 ≤ n → n ≤ 20000 →
    ∀ (Qf : Out → Glob → Prop), (∀ r : Int, -1 ≤ r → r ≤ 20000 → (0 ≤ r → n + szEx (absEx x) ≤ r ∧ d + dpEx (absEx x) ≤ 601) → Qf (.val (.d (.int .i64 r))) g) → EvF TT 88 [x, .int .i64 d, .int .i64 n] g Qf
  | 0, x, g, d, n, hk, _, _, _, _, _ => by omega
  | k + 1, x, g, d, n, hk, hx, d0, d1, h0, h1 => by
    intro Qf hQ
    obtain ⟨k1, s1, r1, v1, a1, b1, p1, rfl, hs1, hr1, t1, u1⟩ := expr_ty hx
    have ex := t1.els undExprs
    have exl := ex.1.1
    have eu := u1.els undPats
    have eul := eu.1.1
    have hc := sizeOf_cell (cs := [.int .i64 k1, .str s1, .str r1, .int .i64 v1, a1, b1, .int .i64 p1]) (c := a1) (by simp)
    have hw : IntKind.i64.wrap (n + IntKind.i64.wrap (IntKind.i64.wrap (1 + IntKind.i64.wrap ((↑(elsOf a1).length : Int).tdiv 10)) + IntKind.i64.wrap ((↑(elsOf b1).length : Int).tdiv 10))) = n + ((1 + (((elsOf a1).length / 10 : Nat) : Int)) + (((elsOf b1).length / 10 : Nat) : Int)) := by
      rw [tdiv10, tdiv10, wrap_id (n := (((elsOf a1).length / 10 : Nat) : Int)) (by omega) (by omega), wrap_id (n := (((elsOf b1).length / 10 : Nat) : Int)) (by omega) (by omega), wrap_id (n := 1 + (((elsOf a1).length / 10 : Nat) : Int)) (by omega) (by omega), wrap_id (n := (1 + (((elsOf a1).length / 10 : Nat) : Int)) + (((elsOf b1).length / 10 : Nat) : Int)) (by omega) (by omega), wrap_id (by omega) (by omega)]
    refine w88 hx ⟨neZ (by decide), neZ (by decide), ?_⟩
    rw [show (fld (Dat.agg [.int .i64 k1, .str s1, .str r1, .int .i64 v1, a1, b1, .int .i64 p1]) 4) = a1 from rfl, show (fld (Dat.agg [.int .i64 k1, .str s1, .str r1, .int .i64 v1, a1, b1, .int .i64 p1]) 5) = b1 from rfl, hw]
    refine Br_iff.2 ⟨fun _ => hQ _ (by omega) (by omega) (fun h => by omega), fun q1 => Br_iff.2 ⟨fun _ => hQ _ (by omega) (by omega) (fun h => by omega), fun q2 => ?_⟩⟩
    have q1 := of_decide_eq_false q1
    have q2 := of_decide_eq_false q2
    have e1 : szEx (absEx (.agg [.int .i64 k1, .str s1, .str r1, .int .i64 v1, a1, b1, .int .i64 p1])) = 1 + szPts (((elsOf b1).drop 0).map absPt) + szExs (((elsOf a1).drop 0).map absEx) := by simp only [absEx, szEx, absPtA_map, absExA_map, List.drop_zero]
    have e2 : dpEx (absEx (.agg [.int .i64 k1, .str s1, .str r1, .int .i64 v1, a1, b1, .int .i64 p1])) = 1 + max (dpPts (((elsOf b1).drop 0).map absPt)) (dpExs (((elsOf a1).drop 0).map absEx)) := by simp only [absEx, dpEx, absPtA_map, absExA_map, List.drop_zero]
    rw [e1, e2] at hQ
    have args : ∀ m : Int, -1 ≤ m → m ≤ 20000 → (∀ r : Int, -1 ≤ r → r ≤ 20000 → (0 ≤ r → 0 ≤ m ∧ m + szExs (((elsOf a1).drop 0).map absEx) ≤ r ∧ d + (1 + dpExs (((elsOf a1).drop 0).map absEx)) ≤ 601) → Qf (.val (.d (.int .i64 r))) g) → L88_9 d m 0 (.agg [.int .i64 k1, .str s1, .str r1, .int .i64 v1, a1, b1, .int .i64 p1]) g Qf := by
      refine loopUp (len := (elsOf a1).length) (fun i => ∀ m : Int, -1 ≤ m → m ≤ 20000 → (∀ r : Int, -1 ≤ r → r ≤ 20000 → (0 ≤ r → 0 ≤ m ∧ m + szExs (((elsOf a1).drop i).map absEx) ≤ r ∧ d + (1 + dpExs (((elsOf a1).drop i).map absEx)) ≤ 601) → Qf (.val (.d (.int .i64 r))) g) → L88_9 d m (i : Int) (.agg [.int .i64 k1, .str s1, .str r1, .int .i64 v1, a1, b1, .int .i64 p1]) g Qf) ?_ ?_ 0 (Nat.zero_le _)
      · intro m m0 m1 hQ
        refine w88_9 ?_
        rw [show (fld (Dat.agg [.int .i64 k1, .str s1, .str r1, .int .i64 v1, a1, b1, .int .i64 p1]) 4) = a1 from rfl, Br_ge]
        exact hQ _ m0 m1 fun hr => by rw [List.drop_length]; simp only [List.map_nil, szExs, dpExs]; omega
      · intro i hi ih m m0 m1 hQ
        refine w88_9 ?_
        rw [show (fld (Dat.agg [.int .i64 k1, .str s1, .str r1, .int .i64 v1, a1, b1, .int .i64 p1]) 4) = a1 from rfl, Br_lt hi, getE_nat hi]
        refine Br_iff.2 ⟨fun q => ⟨inB hi, ?_⟩, fun q => hQ _ m0 m1 fun hr => by have := of_decide_eq_false q; omega⟩
        have hsz := sizeOf_el hi
        rw [wrap_id (by omega) (by omega)]
        refine weighExpr_all k _ g _ _ (by omega) (ex.2 _ (List.getElem_mem hi)) (by omega) (by omega) (of_decide_eq_true q) m1 _ fun r r0 r1 hr => ⟨_, rfl, ?_⟩
        rw [wrap_nat (by omega)]
        refine ih r r0 r1 fun r' s0 s1 hr' => hQ r' s0 s1 fun h' => ?_
        rw [szExs_drop hi, dpExs_drop hi]
        have a := hr' h'
        have b := hr a.1
        have c := of_decide_eq_true q
        omega
    refine loopUp (len := (elsOf b1).length) (fun i => ∀ m : Int, -1 ≤ m → m ≤ 20000 → (∀ r : Int, -1 ≤ r → r ≤ 20000 → (0 ≤ r → 0 ≤ m ∧ m + szPts (((elsOf b1).drop i).map absPt) + szExs (((elsOf a1).drop 0).map absEx) ≤ r ∧ d + (1 + max (dpPts (((elsOf b1).drop i).map absPt)) (dpExs (((elsOf a1).drop 0).map absEx))) ≤ 601) → Qf (.val (.d (.int .i64 r))) g) → L88_5 d m (i : Int) (.agg [.int .i64 k1, .str s1, .str r1, .int .i64 v1, a1, b1, .int .i64 p1]) g Qf) ?_ ?_ 0 (Nat.zero_le _) _ (by omega) (by omega) (fun r r0 r1 h => hQ r r0 r1 fun hr => ⟨by have := (h hr).2.1; omega, by have := (h hr).2.2; omega⟩)
    · intro m m0 m1 hQ
      refine w88_5 ?_
      rw [show (fld (Dat.agg [.int .i64 k1, .str s1, .str r1, .int .i64 v1, a1, b1, .int .i64 p1]) 5) = b1 from rfl, Br_ge]
      refine args m m0 m1 fun r r0 r1 h => hQ r r0 r1 fun hr => ?_
      rw [List.drop_length]
      have := h hr
      simp only [List.map_nil, szPts, dpPts]
      omega
    · intro i hi ih m m0 m1 hQ
      refine w88_5 ?_
      rw [show (fld (Dat.agg [.int .i64 k1, .str s1, .str r1, .int .i64 v1, a1, b1, .int .i64 p1]) 5) = b1 from rfl, Br_lt hi, getE_nat hi]
      refine Br_iff.2 ⟨fun q => ⟨inB hi, ?_⟩, fun q => args m m0 m1 fun r r0 r1 h => hQ r r0 r1 fun hr => by have := of_decide_eq_false q; have := h hr; omega⟩
      rw [wrap_id (by omega) (by omega)]
      refine weighPat_all _ _ g _ _ (Nat.lt_succ_self _) (eu.2 _ (List.getElem_mem hi)) (by omega) (by omega) (of_decide_eq_true q) m1 _ fun r r0 r1 hr => ⟨_, rfl, ?_⟩
      rw [wrap_nat (by omega)]
      refine ih r r0 r1 fun r' s0 s1 hr' => hQ r' s0 s1 fun h' => ?_
      rw [szPts_drop hi, dpPts_drop hi]
      have a := hr' h'
      have b := hr a.1
      have c := of_decide_eq_true q
      omega
end Go.Proofs.YtgmapdcdmomioaaGreatDoor.Pa
