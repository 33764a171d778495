/- The program's own comparison of programs. -/
import Derived.Test.YtgmapdcdmomioaaGreatDoorPdB
set_option linter.all false
set_option linter.all false
set_option autoImplicit false
set_option maxRecDepth 100000
namespace Go.Proofs.YtgmapdcdmomioaaGreatDoor.Pa
open Go Go.Proofs.YtgmapdcdmomioaaGreatDoor.Am
/-- A function that tells whether elements are alike. -/
def Alike (f : FuncId) (c : List Dat) (e : Dat → Dat → Bool) (xs ys : List Dat) (g : Glob) : Prop :=
  ∀ x ∈ xs, ∀ y ∈ ys, ∀ Q : Out → Glob → Prop, Q (.val (.d (.bool (e x y)))) g → EvF TT f (x :: y :: c) g Q
theorem eqTypes_ok (f : FuncId) (c : List Dat) (e : Dat → Dat → Bool) (x y : Dat) (g : Glob) (hx : HasTy TT 89 x) (hy : HasTy TT 89 y) (ha : Alike f c e (elsOf x) (elsOf y) g) (Qf : Out → Glob → Prop)
    (hQ : Qf (.val (.d (.bool (eqBy e (elsOf x) (elsOf y))))) g) : EvF TT 64 [x, y, .clo f c] g Qf := by
  have exl := len_le undTypes hx
  refine w64 hx hy ?_
  by_cases hl : (elsOf x).length = (elsOf y).length
  · rw [ne_false hl, Br_false]
    generalize hR : eqBy e (elsOf x) (elsOf y) = R at hQ
    refine loopUp (len := (elsOf x).length) (fun i => eqBy e ((elsOf x).drop i) ((elsOf y).drop i) = R → L64_4 y f c x (elsOf x).length (i : Int) g Qf) ?_ ?_ 0 (Nat.zero_le _) hR
    · intro h
      rw [List.drop_length, hl, List.drop_length] at h
      refine w64_4 ?_
      rw [Br_ge]
      subst h
      exact hQ
    · intro i hi ih h
      have hj : i < (elsOf y).length := by omega
      refine w64_4 ?_
      rw [Br_lt hi, getE_nat hi, getE_nat hj]
      rw [eqBy_drop hi hj] at h
      refine ⟨inB hi, inB hj, ha _ (List.getElem_mem hi) _ (List.getElem_mem hj) _ ⟨_, rfl, Br_iff.2 ⟨fun q => ?_, fun q => ?_⟩⟩⟩
      · exact (by rw [← h]; simp at q; simp [q] : R = false) ▸ hQ
      · rw [wrap_nat (by omega)]
        refine ih ?_
        rw [← h]
        simp at q
        simp [q]
  · rw [ne_true hl, Br_true]
    rw [eqBy_len hl] at hQ
    exact hQ
theorem eqPats_ok (f : FuncId) (c : List Dat) (e : Dat → Dat → Bool) (x y : Dat) (g : Glob) (hx : HasTy TT 25 x) (hy : HasTy TT 25 y) (ha : Alike f c e (elsOf x) (elsOf y) g) (Qf : Out → Glob → Prop)
    (hQ : Qf (.val (.d (.bool (eqBy e (elsOf x) (elsOf y))))) g) : EvF TT 127 [x, y, .clo f c] g Qf := by
  have exl := len_le undPats hx
  refine w127 hx hy ?_
  by_cases hl : (elsOf x).length = (elsOf y).length
  · rw [ne_false hl, Br_false]
    generalize hR : eqBy e (elsOf x) (elsOf y) = R at hQ
    refine loopUp (len := (elsOf x).length) (fun i => eqBy e ((elsOf x).drop i) ((elsOf y).drop i) = R → L127_4 y f c x (elsOf x).length (i : Int) g Qf) ?_ ?_ 0 (Nat.zero_le _) hR
    · intro h
      rw [List.drop_length, hl, List.drop_length] at h
      refine w127_4 ?_
      rw [Br_ge]
      subst h
      exact hQ
    · intro i hi ih h
      have hj : i < (elsOf y).length := by omega
      refine w127_4 ?_
      rw [Br_lt hi, getE_nat hi, getE_nat hj]
      rw [eqBy_drop hi hj] at h
      refine ⟨inB hi, inB hj, ha _ (List.getElem_mem hi) _ (List.getElem_mem hj) _ ⟨_, rfl, Br_iff.2 ⟨fun q => ?_, fun q => ?_⟩⟩⟩
      · exact (by rw [← h]; simp at q; simp [q] : R = false) ▸ hQ
      · rw [wrap_nat (by omega)]
        refine ih ?_
        rw [← h]
        simp at q
        simp [q]
  · rw [ne_true hl, Br_true]
    rw [eqBy_len hl] at hQ
    exact hQ
theorem eqExprs_ok (f : FuncId) (c : List Dat) (e : Dat → Dat → Bool) (x y : Dat) (g : Glob) (hx : HasTy TT 24 x) (hy : HasTy TT 24 y) (ha : Alike f c e (elsOf x) (elsOf y) g) (Qf : Out → Glob → Prop)
    (hQ : Qf (.val (.d (.bool (eqBy e (elsOf x) (elsOf y))))) g) : EvF TT 126 [x, y, .clo f c] g Qf := by
  have exl := len_le undExprs hx
  refine w126 hx hy ?_
  by_cases hl : (elsOf x).length = (elsOf y).length
  · rw [ne_false hl, Br_false]
    generalize hR : eqBy e (elsOf x) (elsOf y) = R at hQ
    refine loopUp (len := (elsOf x).length) (fun i => eqBy e ((elsOf x).drop i) ((elsOf y).drop i) = R → L126_4 y f c x (elsOf x).length (i : Int) g Qf) ?_ ?_ 0 (Nat.zero_le _) hR
    · intro h
      rw [List.drop_length, hl, List.drop_length] at h
      refine w126_4 ?_
      rw [Br_ge]
      subst h
      exact hQ
    · intro i hi ih h
      have hj : i < (elsOf y).length := by omega
      refine w126_4 ?_
      rw [Br_lt hi, getE_nat hi, getE_nat hj]
      rw [eqBy_drop hi hj] at h
      refine ⟨inB hi, inB hj, ha _ (List.getElem_mem hi) _ (List.getElem_mem hj) _ ⟨_, rfl, Br_iff.2 ⟨fun q => ?_, fun q => ?_⟩⟩⟩
      · exact (by rw [← h]; simp at q; simp [q] : R = false) ▸ hQ
      · rw [wrap_nat (by omega)]
        refine ih ?_
        rw [← h]
        simp at q
        simp [q]
  · rw [ne_true hl, Br_true]
    rw [eqBy_len hl] at hQ
    exact hQ
theorem eqCons_ok (f : FuncId) (c : List Dat) (e : Dat → Dat → Bool) (x y : Dat) (g : Glob) (hx : HasTy TT 74 x) (hy : HasTy TT 74 y) (ha : Alike f c e (elsOf x) (elsOf y) g) (Qf : Out → Glob → Prop)
    (hQ : Qf (.val (.d (.bool (eqBy e (elsOf x) (elsOf y))))) g) : EvF TT 62 [x, y, .clo f c] g Qf := by
  have exl := len_le undCons hx
  refine w62 hx hy ?_
  by_cases hl : (elsOf x).length = (elsOf y).length
  · rw [ne_false hl, Br_false]
    generalize hR : eqBy e (elsOf x) (elsOf y) = R at hQ
    refine loopUp (len := (elsOf x).length) (fun i => eqBy e ((elsOf x).drop i) ((elsOf y).drop i) = R → L62_4 y f c x (elsOf x).length (i : Int) g Qf) ?_ ?_ 0 (Nat.zero_le _) hR
    · intro h
      rw [List.drop_length, hl, List.drop_length] at h
      refine w62_4 ?_
      rw [Br_ge]
      subst h
      exact hQ
    · intro i hi ih h
      have hj : i < (elsOf y).length := by omega
      refine w62_4 ?_
      rw [Br_lt hi, getE_nat hi, getE_nat hj]
      rw [eqBy_drop hi hj] at h
      refine ⟨inB hi, inB hj, ha _ (List.getElem_mem hi) _ (List.getElem_mem hj) _ ⟨_, rfl, Br_iff.2 ⟨fun q => ?_, fun q => ?_⟩⟩⟩
      · exact (by rw [← h]; simp at q; simp [q] : R = false) ▸ hQ
      · rw [wrap_nat (by omega)]
        refine ih ?_
        rw [← h]
        simp at q
        simp [q]
  · rw [ne_true hl, Br_true]
    rw [eqBy_len hl] at hQ
    exact hQ
theorem eqDecls_ok (f : FuncId) (c : List Dat) (e : Dat → Dat → Bool) (x y : Dat) (g : Glob) (hx : HasTy TT 23 x) (hy : HasTy TT 23 y) (ha : Alike f c e (elsOf x) (elsOf y) g) (Qf : Out → Glob → Prop)
    (hQ : Qf (.val (.d (.bool (eqBy e (elsOf x) (elsOf y))))) g) : EvF TT 59 [x, y, .clo f c] g Qf := by
  have exl := len_le undDecls hx
  refine w59 hx hy ?_
  by_cases hl : (elsOf x).length = (elsOf y).length
  · rw [ne_false hl, Br_false]
    generalize hR : eqBy e (elsOf x) (elsOf y) = R at hQ
    refine loopUp (len := (elsOf x).length) (fun i => eqBy e ((elsOf x).drop i) ((elsOf y).drop i) = R → L59_4 y f c x (elsOf x).length (i : Int) g Qf) ?_ ?_ 0 (Nat.zero_le _) hR
    · intro h
      rw [List.drop_length, hl, List.drop_length] at h
      refine w59_4 ?_
      rw [Br_ge]
      subst h
      exact hQ
    · intro i hi ih h
      have hj : i < (elsOf y).length := by omega
      refine w59_4 ?_
      rw [Br_lt hi, getE_nat hi, getE_nat hj]
      rw [eqBy_drop hi hj] at h
      refine ⟨inB hi, inB hj, ha _ (List.getElem_mem hi) _ (List.getElem_mem hj) _ ⟨_, rfl, Br_iff.2 ⟨fun q => ?_, fun q => ?_⟩⟩⟩
      · exact (by rw [← h]; simp at q; simp [q] : R = false) ▸ hQ
      · rw [wrap_nat (by omega)]
        refine ih ?_
        rw [← h]
        simp at q
        simp [q]
  · rw [ne_true hl, Br_true]
    rw [eqBy_len hl] at hQ
    exact hQ
theorem eqStrs_ok (x y : Dat) (g : Glob) (hx : HasTy TT 61 x) (hy : HasTy TT 61 y) (Qf : Out → Glob → Prop)
    (hQ : Qf (.val (.d (.bool (eqBy (fun a b => a == b) ((elsOf x).map strOf) ((elsOf y).map strOf))))) g) : EvF TT 61 [x, y] g Qf := by
  have exl := len_le undStrs hx
  have ex := hx.els undStrs
  have ey := hy.els undStrs
  rw [eqBy_map] at hQ
  refine w61 hx hy ?_
  by_cases hl : (elsOf x).length = (elsOf y).length
  · rw [ne_false hl, Br_false]
    generalize hR : eqBy (fun a b => strOf a == strOf b) (elsOf x) (elsOf y) = R at hQ
    refine loopUp (len := (elsOf x).length) (fun i => eqBy (fun a b => strOf a == strOf b) ((elsOf x).drop i) ((elsOf y).drop i) = R → L61_4 x y (elsOf x).length (i : Int) g Qf) ?_ ?_ 0 (Nat.zero_le _) hR
    · intro h
      rw [List.drop_length, hl, List.drop_length] at h
      refine w61_4 ?_
      rw [Br_ge]
      subst h
      exact hQ
    · intro i hi ih h
      have hj : i < (elsOf y).length := by omega
      refine w61_4 ?_
      rw [Br_lt hi, getE_nat hi, getE_nat hj]
      rw [eqBy_drop hi hj] at h
      obtain ⟨t1, d1, _⟩ := str_ty (ex.2 _ (List.getElem_mem hi))
      obtain ⟨t2, d2, _⟩ := str_ty (ey.2 _ (List.getElem_mem hj))
      rw [d1] at h ⊢
      rw [d2] at h ⊢
      simp only [strOf] at h
      refine ⟨inB hi, inB hj, Br_iff.2 ⟨fun q => ?_, fun q => ?_⟩⟩
      all_goals simp [fld, strOf] at q
      · exact (by rw [← h]; simp [q] : R = false) ▸ hQ
      · subst q
        simp only [beq_self_eq_true, Bool.true_and] at h
        rw [wrap_nat (by omega)]
        exact ih h
  · rw [ne_true hl, Br_true]
    rw [eqBy_len hl] at hQ
    exact hQ
theorem eqBy_congr {α : Type} {f h : α → α → Bool} : ∀ {xs ys : List α}, (∀ x ∈ xs, ∀ y ∈ ys, f x y = h x y) → eqBy f xs ys = eqBy h xs ys
  | [], [], _ => rfl
  | [], _ :: _, _ => rfl
  | _ :: _, [], _ => rfl
  | x :: xs, y :: ys, e => by
    simp only [eqBy]
    rw [e x List.mem_cons_self y List.mem_cons_self, eqBy_congr fun a ha b hb => e a (List.mem_cons_of_mem _ ha) b (List.mem_cons_of_mem _ hb)]
theorem sameType_ok : ∀ (k : Nat) (x y : Dat) (g : Glob), SizeOf.sizeOf x < k → HasTy TT 94 x → HasTy TT 94 y → ∀ (Qf : Out → Glob → Prop), Qf (.val (.d (.bool (eqTy (absTy x) (absTy y))))) g → EvF TT 65 [x, y] g Qf
  | 0, x, y, g, hk, _, _ => by omega
  | k + 1, x, y, g, hk, hx, hy => by
    intro Qf hQ
    refine w65 hx hy ?_
    obtain ⟨k1, s1, n1, a1, rfl, _, t1⟩ := type_ty hx
    obtain ⟨k2, s2, n2, a2, rfl, _, t2⟩ := type_ty hy
    simp only [absTy, eqTy] at hQ
    generalize hR : (k1 == k2 && (s1 == s2 && (n1 == n2 && eqTys (absTyA a1) (absTyA a2)))) = R at hQ
    refine Br_iff.2 ⟨fun q => Br_iff.2 ⟨fun q' => Br_iff.2 ⟨fun q'' => ?_, fun q'' => ?_⟩, fun q' => ?_⟩, fun q => ?_⟩
    all_goals simp [fld, nth, intOf, strOf] at q
    case refine_4 => exact (by rw [← hR]; simp [q] : R = false) ▸ hQ
    all_goals simp [fld, nth, intOf, strOf] at q'
    case refine_3 => exact (by rw [← hR]; simp [q'] : R = false) ▸ hQ
    all_goals simp [fld, nth, intOf, strOf] at q''
    case refine_2 => exact (by rw [← hR]; simp [q''] : R = false) ▸ hQ
    subst q q' q''
    simp only [beq_self_eq_true, Bool.true_and, eqTys_by, absTyA_map, eqBy_map] at hR
    subst hR
    refine eqTypes_ok _ _ (fun a b => eqTy (absTy a) (absTy b)) a1 a2 g t1 t2 (fun x hx y hy Q q => ?_) _ ⟨_, rfl, hQ⟩
    obtain ⟨i, hi, rfl⟩ := List.getElem_of_mem hx
    have hsz := sizeOf_el hi
    have hc := sizeOf_cell (cs := [.int .i64 k1, .str s1, .int .i64 n1, a1]) (c := a1) (by simp)
    exact sameType_ok k _ y g (by omega) ((t1.els undTypes).2 _ hx) ((t2.els undTypes).2 _ hy) Q q
theorem samePat_ok : ∀ (k : Nat) (x y : Dat) (g : Glob), SizeOf.sizeOf x < k → HasTy TT 127 x → HasTy TT 127 y → ∀ (Qf : Out → Glob → Prop), Qf (.val (.d (.bool (eqPt false (absPt x) (absPt y))))) g → EvF TT 128 [x, y] g Qf
  | 0, x, y, g, hk, _, _ => by omega
  | k + 1, x, y, g, hk, hx, hy => by
    intro Qf hQ
    refine w128 hx hy ?_
    obtain ⟨k1, s1, n1, a1, p1, rfl, _, t1⟩ := pat_ty hx
    obtain ⟨k2, s2, n2, a2, p2, rfl, _, t2⟩ := pat_ty hy
    simp only [absPt, eqPt] at hQ
    generalize hR : (k1 == k2 && (s1 == s2 && (n1 == n2 && ((!false || p1 == p2) && eqPts false (absPtA a1) (absPtA a2))))) = R at hQ
    refine Br_iff.2 ⟨fun q => Br_iff.2 ⟨fun q' => Br_iff.2 ⟨fun q'' => ?_, fun q'' => ?_⟩, fun q' => ?_⟩, fun q => ?_⟩
    all_goals simp [fld, nth, intOf, strOf] at q
    case refine_4 => exact (by rw [← hR]; simp [q] : R = false) ▸ hQ
    all_goals simp [fld, nth, intOf, strOf] at q'
    case refine_3 => exact (by rw [← hR]; simp [q'] : R = false) ▸ hQ
    all_goals simp [fld, nth, intOf, strOf] at q''
    case refine_2 => exact (by rw [← hR]; simp [q''] : R = false) ▸ hQ
    subst q q' q''
    simp only [beq_self_eq_true, Bool.true_and, Bool.not_false, Bool.true_or, eqPts_by, absPtA_map, eqBy_map] at hR
    subst hR
    refine eqPats_ok _ _ (fun a b => eqPt false (absPt a) (absPt b)) a1 a2 g t1 t2 (fun x hx y hy Q q => ?_) _ ⟨_, rfl, hQ⟩
    obtain ⟨i, hi, rfl⟩ := List.getElem_of_mem hx
    have hsz := sizeOf_el hi
    have hc := sizeOf_cell (cs := [.int .i64 k1, .str s1, .int .i64 n1, a1, .int .i64 p1]) (c := a1) (by simp)
    exact samePat_ok k _ y g (by omega) ((t1.els undPats).2 _ hx) ((t2.els undPats).2 _ hy) Q q
theorem sameExpr_ok : ∀ (k : Nat) (x y : Dat) (g : Glob), SizeOf.sizeOf x < k → HasTy TT 27 x → HasTy TT 27 y → ∀ (Qf : Out → Glob → Prop), Qf (.val (.d (.bool (eqEx false (absEx x) (absEx y))))) g → EvF TT 66 [x, y] g Qf
  | 0, x, y, g, hk, _, _ => by omega
  | k + 1, x, y, g, hk, hx, hy => by
    intro Qf hQ
    refine w66 hx hy ?_
    obtain ⟨k1, s1, r1, n1, a1, b1, p1, rfl, _, _, t1, u1⟩ := expr_ty hx
    obtain ⟨k2, s2, r2, n2, a2, b2, p2, rfl, _, _, t2, u2⟩ := expr_ty hy
    simp only [absEx, eqEx] at hQ
    generalize hR : (k1 == k2 && (s1 == s2 && (r1 == r2 && (n1 == n2 && ((!false || p1 == p2) && (eqPts false (absPtA b1) (absPtA b2) && eqExs false (absExA a1) (absExA a2))))))) = R at hQ
    refine Br_iff.2 ⟨fun q => Br_iff.2 ⟨fun q' => Br_iff.2 ⟨fun q'' => Br_iff.2 ⟨fun q3 => ?_, fun q3 => ?_⟩, fun q'' => ?_⟩, fun q' => ?_⟩, fun q => ?_⟩
    all_goals simp [fld, nth, intOf, strOf] at q
    case refine_5 => exact (by rw [← hR]; simp [q] : R = false) ▸ hQ
    all_goals simp [fld, nth, intOf, strOf] at q'
    case refine_4 => exact (by rw [← hR]; simp [q'] : R = false) ▸ hQ
    all_goals simp [fld, nth, intOf, strOf] at q''
    case refine_3 => exact (by rw [← hR]; simp [q''] : R = false) ▸ hQ
    all_goals simp [fld, nth, intOf, strOf] at q3
    case refine_2 => exact (by rw [← hR]; simp [q3] : R = false) ▸ hQ
    subst q q' q'' q3
    simp only [beq_self_eq_true, Bool.true_and, Bool.not_false, Bool.true_or, eqPts_by, eqExs_by, absPtA_map, absExA_map, eqBy_map] at hR
    subst hR
    refine eqExprs_ok _ _ (fun a b => eqEx false (absEx a) (absEx b)) a1 a2 g t1 t2 (fun x hx y hy Q q => ?_) _ ⟨_, rfl, Br_iff.2 ⟨fun q => ?_, fun q => ?_⟩⟩
    · obtain ⟨i, hi, rfl⟩ := List.getElem_of_mem hx
      have hsz := sizeOf_el hi
      have hc := sizeOf_cell (cs := [.int .i64 k1, .str s1, .str r1, .int .i64 n1, a1, b1, .int .i64 p1]) (c := a1) (by simp)
      exact sameExpr_ok k _ y g (by omega) ((t1.els undExprs).2 _ hx) ((t2.els undExprs).2 _ hy) Q q
    · have q : eqBy (fun a b => eqEx false (absEx a) (absEx b)) (elsOf a1) (elsOf a2) = true := q
      rw [q, Bool.and_true] at hQ
      refine eqPats_ok _ _ (fun a b => eqPt false (absPt a) (absPt b)) b1 b2 g u1 u2 (fun x hx y hy Q q => ?_) _ ⟨_, rfl, hQ⟩
      exact samePat_ok _ _ y g (Nat.lt_succ_self _) ((u1.els undPats).2 _ hx) ((u2.els undPats).2 _ hy) Q q
    · have q : eqBy (fun a b => eqEx false (absEx a) (absEx b)) (elsOf a1) (elsOf a2) = false := q
      rw [q, Bool.and_false] at hQ
      exact hQ
theorem sameCon_ok (x y : Dat) (g : Glob) (hx : HasTy TT 91 x) (hy : HasTy TT 91 y) (Qf : Out → Glob → Prop) (hQ : Qf (.val (.d (.bool (eqCn (absCn x) (absCn y))))) g) : EvF TT 63 [x, y] g Qf := by
  refine w63 hx hy ?_
  obtain ⟨s1, a1, rfl, _, t1⟩ := con_ty hx
  obtain ⟨s2, a2, rfl, _, t2⟩ := con_ty hy
  rw [absCn_agg, absCn_agg, eqCn_mk, eqTys_by, absTyA_map, absTyA_map, eqBy_map] at hQ
  refine Br_iff.2 ⟨fun q => ?_, fun q => ?_⟩
  all_goals simp [fld, nth, strOf] at q
  · subst q
    simp only [beq_self_eq_true, Bool.true_and] at hQ
    refine eqTypes_ok _ _ (fun a b => eqTy (absTy a) (absTy b)) a1 a2 g t1 t2 (fun x hx y hy Q q => ?_) _ ⟨_, rfl, hQ⟩
    exact sameType_ok _ _ y g (Nat.lt_succ_self _) ((t1.els undTypes).2 _ hx) ((t2.els undTypes).2 _ hy) Q q
  · have : (s1 == s2) = false := by simpa using q
    rw [this, Bool.false_and] at hQ
    exact hQ
theorem sameDecl_ok (x y : Dat) (g : Glob) (hx : HasTy TT 76 x) (hy : HasTy TT 76 y) (Qf : Out → Glob → Prop) (hQ : Qf (.val (.d (.bool (eqDc false (absDc x) (absDc y))))) g) : EvF TT 60 [x, y] g Qf := by
  refine w60 hx hy ?_
  obtain ⟨s1, a1, b1, p1, rfl, _, ta1, tb1⟩ := decl_ty hx
  obtain ⟨s2, a2, b2, p2, rfl, _, ta2, tb2⟩ := decl_ty hy
  rw [absDc_agg, absDc_agg, eqDc_mk] at hQ
  refine Br_iff.2 ⟨fun q => ?_, fun q => ?_⟩
  all_goals simp [fld, nth, strOf] at q
  · subst q
    simp only [beq_self_eq_true, Bool.true_and, Bool.not_false, Bool.true_or] at hQ
    refine eqStrs_ok a1 a2 g ta1 ta2 _ ⟨_, rfl, Br_iff.2 ⟨fun q => ?_, fun q => ?_⟩⟩
    · rw [q, Bool.true_and, eqBy_map] at hQ
      refine eqCons_ok _ _ (fun a b => eqCn (absCn a) (absCn b)) b1 b2 g tb1 tb2 (fun x hx y hy Q q => ?_) _ ⟨_, rfl, hQ⟩
      exact sameCon_ok _ y g ((tb1.els undCons).2 _ hx) ((tb2.els undCons).2 _ hy) Q q
    · rw [q, Bool.false_and] at hQ
      exact hQ
  · have : (s1 == s2) = false := by simpa using q
    rw [this, Bool.false_and] at hQ
    exact hQ
theorem parseSame_ok (x y : Dat) (g : Glob) (hx : HasTy TT 29 x) (hy : HasTy TT 29 y) (Qf : Out → Glob → Prop) (hQ : Qf (.val (.d (.bool (eqPg false (absPg x) (absPg y))))) g) : EvF TT 22 [x, y] g Qf := by
  refine w22 hx hy ?_
  obtain ⟨d1, k1, s1, r1, n1, a1, b1, p1, rfl, hd1, he1⟩ := prog_ty hx
  obtain ⟨d2, k2, s2, r2, n2, a2, b2, p2, rfl, hd2, he2⟩ := prog_ty hy
  have hQ : Qf (.val (.d (.bool (eqBy (eqDc false) ((elsOf d1).map absDc) ((elsOf d2).map absDc) && eqEx false (absEx (.agg [.int .i64 k1, .str s1, .str r1, .int .i64 n1, a1, b1, .int .i64 p1])) (absEx (.agg [.int .i64 k2, .str s2, .str r2, .int .i64 n2, a2, b2, .int .i64 p2])))))) g := hQ
  rw [eqBy_map] at hQ
  refine eqDecls_ok _ _ (fun a b => eqDc false (absDc a) (absDc b)) d1 d2 g hd1 hd2 (fun x hx y hy Q q => ?_) _ ⟨_, rfl, Br_iff.2 ⟨fun q => ?_, fun q => ?_⟩⟩
  · exact sameDecl_ok _ y g ((hd1.els undDecls).2 _ hx) ((hd2.els undDecls).2 _ hy) Q q
  · have q : eqBy (fun a b => eqDc false (absDc a) (absDc b)) (elsOf d1) (elsOf d2) = true := q
    rw [q, Bool.true_and] at hQ
    exact sameExpr_ok _ _ _ g (Nat.lt_succ_self _) he1 he2 _ ⟨_, rfl, hQ⟩
  · have q : eqBy (fun a b => eqDc false (absDc a) (absDc b)) (elsOf d1) (elsOf d2) = false := q
    rw [q, Bool.false_and] at hQ
    exact hQ
end Go.Proofs.YtgmapdcdmomioaaGreatDoor.Pa
