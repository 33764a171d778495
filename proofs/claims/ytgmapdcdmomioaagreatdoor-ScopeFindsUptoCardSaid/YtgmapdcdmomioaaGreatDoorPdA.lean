/- The document's comparisons of trees. -/
import Derived.Test.YtgmapdcdmomioaaGreatDoorPcA
import Derived.Test.YtgmapdcdmomioaaGreatDoorPwA
set_option linter.all false
set_option linter.all false
set_option autoImplicit false
set_option maxRecDepth 100000
namespace Go.Proofs.YtgmapdcdmomioaaGreatDoor.Pa
open Go Go.Proofs.YtgmapdcdmomioaaGreatDoor.Am
theorem ne_false {n m : Nat} (h : n = m) : ((n : Int) != (m : Int)) = false := by simp [h]
theorem ne_true {n m : Nat} (h : n ≠ m) : ((n : Int) != (m : Int)) = true := by simp; omega
theorem sameTypes_ok : ∀ (k : Nat) (x y : Dat) (g : Glob), SizeOf.sizeOf x < k → HasTy TT 89 x → HasTy TT 89 y → ∀ (Qf : Out → Glob → Prop), Qf (.val (.d (.bool (eqTys (absTyA x) (absTyA y))))) g → EvF TT 86 [x, y] g Qf
  | 0, x, y, g, hk, _, _ => by omega
  | k + 1, x, y, g, hk, hx, hy => by
    have ex := hx.els undTypes
    have exl := ex.1.1
    have ey := hy.els undTypes
    rw [eqTys_by, absTyA_map, absTyA_map, eqBy_map]
    intro Qf hQ
    refine w86 hx hy ?_
    by_cases hl : (elsOf x).length = (elsOf y).length
    · rw [ne_false hl, Br_false]
      generalize hR : eqBy (fun a b => eqTy (absTy a) (absTy b)) (elsOf x) (elsOf y) = R at hQ
      refine loopUp (len := (elsOf x).length) (fun i => eqBy (fun a b => eqTy (absTy a) (absTy b)) ((elsOf x).drop i) ((elsOf y).drop i) = R → L86_4 x y (i : Int) g Qf) ?_ ?_ 0 (Nat.zero_le _) hR
      · intro h
        rw [List.drop_length, hl, List.drop_length] at h
        refine w86_4 ?_
        rw [Br_ge]
        subst h
        exact hQ
      · intro i hi ih h
        have hj : i < (elsOf y).length := by omega
        refine w86_4 ?_
        rw [Br_lt hi, getE_nat hi, getE_nat hj]
        rw [eqBy_drop hi hj] at h
        have hsz := sizeOf_el hi
        obtain ⟨k1, s1, n1, a1, e1, _, t1⟩ := type_ty (ex.2 _ (List.getElem_mem hi))
        obtain ⟨k2, s2, n2, a2, e2, _, t2⟩ := type_ty (ey.2 _ (List.getElem_mem hj))
        rw [e1] at hsz h ⊢
        rw [e2] at h ⊢
        have hc : SizeOf.sizeOf a1 < k := by have := sizeOf_cell (cs := [.int .i64 k1, .str s1, .int .i64 n1, a1]) (c := a1) (by simp); omega
        simp only [absTy, eqTy] at h
        refine ⟨inB hi, inB hj, Br_iff.2 ⟨fun q => ?_, fun q => ⟨inB hi, inB hj, Br_iff.2 ⟨fun q' => ?_, fun q' => ⟨inB hi, inB hj, Br_iff.2 ⟨fun q'' => ?_, fun q'' => ⟨inB hi, inB hj, ?_⟩⟩⟩⟩⟩⟩⟩
        all_goals simp [fld, nth, intOf, strOf] at q
        · exact (by rw [← h]; simp [q] : R = false) ▸ hQ
        all_goals simp [fld, nth, intOf, strOf] at q'
        · exact (by rw [← h]; simp [q'] : R = false) ▸ hQ
        all_goals simp [fld, nth, intOf, strOf] at q''
        · exact (by rw [← h]; simp [q''] : R = false) ▸ hQ
        subst q q' q''
        simp only [beq_self_eq_true, Bool.true_and] at h
        refine sameTypes_ok k a1 a2 g hc t1 t2 _ ⟨_, rfl, Br_iff.2 ⟨fun q => ?_, fun q => ?_⟩⟩
        · exact (by rw [← h]; simp at q; simp [q] : R = false) ▸ hQ
        · rw [wrap_nat (by omega)]
          refine ih ?_
          rw [← h]
          simp at q
          simp [q]
    · rw [ne_true hl, Br_true]
      rw [eqBy_len hl] at hQ
      exact hQ
theorem samePats_ok (pl : Bool) : ∀ (k : Nat) (x y : Dat) (g : Glob), SizeOf.sizeOf x < k → HasTy TT 25 x → HasTy TT 25 y → ∀ (Qf : Out → Glob → Prop), Qf (.val (.d (.bool (eqPts pl (absPtA x) (absPtA y))))) g → EvF TT 116 [x, y, .bool pl] g Qf
  | 0, x, y, g, hk, _, _ => by omega
  | k + 1, x, y, g, hk, hx, hy => by
    have ex := hx.els undPats
    have exl := ex.1.1
    have ey := hy.els undPats
    rw [eqPts_by, absPtA_map, absPtA_map, eqBy_map]
    intro Qf hQ
    refine w116 hx hy ?_
    by_cases hl : (elsOf x).length = (elsOf y).length
    · rw [ne_false hl, Br_false]
      generalize hR : eqBy (fun a b => eqPt pl (absPt a) (absPt b)) (elsOf x) (elsOf y) = R at hQ
      refine loopUp (len := (elsOf x).length) (fun i => eqBy (fun a b => eqPt pl (absPt a) (absPt b)) ((elsOf x).drop i) ((elsOf y).drop i) = R → L116_4 x y pl (i : Int) g Qf) ?_ ?_ 0 (Nat.zero_le _) hR
      · intro h
        rw [List.drop_length, hl, List.drop_length] at h
        refine w116_4 ?_
        rw [Br_ge]
        subst h
        exact hQ
      · intro i hi ih h
        have hj : i < (elsOf y).length := by omega
        refine w116_4 ?_
        rw [Br_lt hi, getE_nat hi, getE_nat hj]
        rw [eqBy_drop hi hj] at h
        have hsz := sizeOf_el hi
        obtain ⟨k1, s1, n1, a1, p1, e1, _, t1⟩ := pat_ty (ex.2 _ (List.getElem_mem hi))
        obtain ⟨k2, s2, n2, a2, p2, e2, _, t2⟩ := pat_ty (ey.2 _ (List.getElem_mem hj))
        rw [e1] at hsz h ⊢
        rw [e2] at h ⊢
        have hc : SizeOf.sizeOf a1 < k := by have := sizeOf_cell (cs := [.int .i64 k1, .str s1, .int .i64 n1, a1, .int .i64 p1]) (c := a1) (by simp); omega
        simp only [absPt, eqPt] at h
        refine ⟨inB hi, inB hj, Br_iff.2 ⟨fun q => ?_, fun q => Br_iff.2 ⟨fun q' => ?_, fun q' => Br_iff.2 ⟨fun q'' => ?_, fun q'' => ?_⟩⟩⟩⟩
        all_goals simp [fld, nth, intOf, strOf] at q
        · exact (by rw [← h]; simp [q] : R = false) ▸ hQ
        all_goals simp [fld, nth, intOf, strOf] at q'
        · exact (by rw [← h]; simp [q'] : R = false) ▸ hQ
        all_goals simp [fld, nth, intOf, strOf] at q''
        · exact (by rw [← h]; simp [q''] : R = false) ▸ hQ
        subst q q' q''
        simp only [beq_self_eq_true, Bool.true_and] at h
        have fin : (!pl || p1 == p2) = true → EvF TT 116 [a1, a2, Dat.bool pl] g fun out g' => Outc (fun x => Qf (Out.panic x) g') (fun v => ∃ b, v = Val.d (Dat.bool b) ∧ Br (!b) (Qf (Out.val (Val.d (Dat.bool false))) g') (L116_4 x y pl (IntKind.i64.wrap ((i : Int) + 1)) g' Qf)) out := by
          intro hp
          simp only [hp, Bool.true_and] at h
          refine samePats_ok pl k a1 a2 g hc t1 t2 _ ⟨_, rfl, Br_iff.2 ⟨fun q => ?_, fun q => ?_⟩⟩
          · exact (by rw [← h]; simp at q; simp [q] : R = false) ▸ hQ
          · rw [wrap_nat (by omega)]
            refine ih ?_
            rw [← h]
            simp at q
            simp [q]
        refine Br_iff.2 ⟨fun hp => Br_iff.2 ⟨fun q => ?_, fun q => fin ?_⟩, fun hp => fin (by simp [hp])⟩
        · simp [fld, nth, intOf] at q
          exact (by rw [← h]; simp [hp, q] : R = false) ▸ hQ
        · simp [fld, nth, intOf] at q
          simp [q]
    · rw [ne_true hl, Br_true]
      rw [eqBy_len hl] at hQ
      exact hQ
theorem sameExprs_ok (pl : Bool) : ∀ (k : Nat) (x y : Dat) (g : Glob), SizeOf.sizeOf x < k → HasTy TT 24 x → HasTy TT 24 y → ∀ (Qf : Out → Glob → Prop), Qf (.val (.d (.bool (eqExs pl (absExA x) (absExA y))))) g → EvF TT 53 [x, y, .bool pl] g Qf
  | 0, x, y, g, hk, _, _ => by omega
  | k + 1, x, y, g, hk, hx, hy => by
    have ex := hx.els undExprs
    have exl := ex.1.1
    have ey := hy.els undExprs
    rw [eqExs_by, absExA_map, absExA_map, eqBy_map]
    intro Qf hQ
    refine w53 hx hy ?_
    by_cases hl : (elsOf x).length = (elsOf y).length
    · rw [ne_false hl, Br_false]
      generalize hR : eqBy (fun a b => eqEx pl (absEx a) (absEx b)) (elsOf x) (elsOf y) = R at hQ
      refine loopUp (len := (elsOf x).length) (fun i => eqBy (fun a b => eqEx pl (absEx a) (absEx b)) ((elsOf x).drop i) ((elsOf y).drop i) = R → L53_4 x y pl (i : Int) g Qf) ?_ ?_ 0 (Nat.zero_le _) hR
      · intro h
        rw [List.drop_length, hl, List.drop_length] at h
        refine w53_4 ?_
        rw [Br_ge]
        subst h
        exact hQ
      · intro i hi ih h
        have hj : i < (elsOf y).length := by omega
        refine w53_4 ?_
        rw [Br_lt hi, getE_nat hi, getE_nat hj]
        rw [eqBy_drop hi hj] at h
        have hsz := sizeOf_el hi
        obtain ⟨k1, s1, r1, n1, a1, b1, p1, e1, _, _, t1, u1⟩ := expr_ty (ex.2 _ (List.getElem_mem hi))
        obtain ⟨k2, s2, r2, n2, a2, b2, p2, e2, _, _, t2, u2⟩ := expr_ty (ey.2 _ (List.getElem_mem hj))
        rw [e1] at hsz h ⊢
        rw [e2] at h ⊢
        have hc : SizeOf.sizeOf a1 < k := by have := sizeOf_cell (cs := [.int .i64 k1, .str s1, .str r1, .int .i64 n1, a1, b1, .int .i64 p1]) (c := a1) (by simp); omega
        simp only [absEx, eqEx] at h
        refine ⟨inB hi, inB hj, Br_iff.2 ⟨fun q => ?_, fun q => Br_iff.2 ⟨fun q' => ?_, fun q' => Br_iff.2 ⟨fun q'' => ?_, fun q'' => Br_iff.2 ⟨fun q3 => ?_, fun q3 => ?_⟩⟩⟩⟩⟩
        all_goals simp [fld, nth, intOf, strOf] at q
        · exact (by rw [← h]; simp [q] : R = false) ▸ hQ
        all_goals simp [fld, nth, intOf, strOf] at q'
        · exact (by rw [← h]; simp [q'] : R = false) ▸ hQ
        all_goals simp [fld, nth, intOf, strOf] at q''
        · exact (by rw [← h]; simp [q''] : R = false) ▸ hQ
        all_goals simp [fld, nth, intOf, strOf] at q3
        · exact (by rw [← h]; simp [q3] : R = false) ▸ hQ
        subst q q' q'' q3
        simp only [beq_self_eq_true, Bool.true_and] at h
        have fin : (!pl || p1 == p2) = true → EvF TT 116 [b1, b2, Dat.bool pl] g fun out g' => Outc (fun x => Qf (Out.panic x) g') (fun v => ∃ b, v = Val.d (Dat.bool b) ∧ Br (!b) (Qf (Out.val (Val.d (Dat.bool false))) g') (EvF TT 53 [a1, a2, Dat.bool pl] g' fun out g' => Outc (fun x => Qf (Out.panic x) g') (fun v => ∃ b, v = Val.d (Dat.bool b) ∧ Br (!b) (Qf (Out.val (Val.d (Dat.bool false))) g') (L53_4 x y pl (IntKind.i64.wrap ((i : Int) + 1)) g' Qf)) out)) out := by
          intro hp
          simp only [hp, Bool.true_and] at h
          refine samePats_ok pl _ b1 b2 g (Nat.lt_succ_self _) u1 u2 _ ⟨_, rfl, Br_iff.2 ⟨fun q => ?_, fun q => ?_⟩⟩
          · exact (by rw [← h]; simp at q; simp [q] : R = false) ▸ hQ
          · refine sameExprs_ok pl k a1 a2 g hc t1 t2 _ ⟨_, rfl, Br_iff.2 ⟨fun q' => ?_, fun q' => ?_⟩⟩
            · exact (by rw [← h]; simp at q'; simp [q'] : R = false) ▸ hQ
            · rw [wrap_nat (by omega)]
              refine ih ?_
              rw [← h]
              simp at q q'
              simp [q, q']
        refine Br_iff.2 ⟨fun hp => Br_iff.2 ⟨fun q => ?_, fun q => fin ?_⟩, fun hp => fin (by simp [hp])⟩
        · simp [fld, nth, intOf] at q
          exact (by rw [← h]; simp [hp, q] : R = false) ▸ hQ
        · simp [fld, nth, intOf] at q
          simp [q]
    · rw [ne_true hl, Br_true]
      rw [eqBy_len hl] at hQ
      exact hQ
end Go.Proofs.YtgmapdcdmomioaaGreatDoor.Pa
