/- Which expressions may be: the program's tests, the document's. -/
import Derived.Test.YtgmapdcdmomioaaGreatDoorPfJ
set_option linter.all false
set_option linter.all false
set_option autoImplicit false
set_option maxRecDepth 100000
namespace Go.Proofs.YtgmapdcdmomioaaGreatDoor.Pa
open Go Go.Proofs.YtgmapdcdmomioaaGreatDoor.Am
def pos0 (n : Int) : Bool := decide (0 < n)
def okEx1 (k : Int) (s r : Str) (n la lb : Int) : Bool :=
  bif (!(k == 6) && !(r == [])) || ((!(k == 2) && !(n == 0)) || (!(k == 7) && pos0 lb)) then false
  else bif k == 1 then wLow s && (la == 0) else bif k == 2 then (s == []) && (inI n && (la == 0)) else bif k == 3 then wLow s && (la == 1) else bif k == 4 then (s == []) && (la == 2)
  else bif k == 5 then wLow s && (la == 2) else bif k == 6 then wLow s && (wLow r && (la == 2)) else bif k == 7 then (s == []) && (pos0 lb && (la == lb + 1)) else bif k == 8 then wUp s
  else bif k == 9 then pos0 (opN s) && (la == 2) else bif k == 10 then (s == []) && (la == 1) else false
def namedP (k : Int) (s r : Str) (n lb : Int) : Bool :=
  bif k == 1 then wLow s else bif k == 3 then wLow s else bif k == 5 then wLow s else bif k == 6 then wLow s && wLow r else bif k == 2 then inI n else bif k == 7 then pos0 lb else bif k == 8 then wUp s else bif k == 9 then pos0 (opN s) else true
mutual
def okEx : Ex' → Bool
  | .mk k s r n a b _ => okEx1 k s r n a.length b.length && (okPts b && okExs a)
def okExs : List Ex' → Bool
  | [] => true
  | x :: l => okEx x && okExs l
end
mutual
def nwEx : Ex' → Bool
  | .mk k _ _ _ a b _ => !((k == 8) && gt8 a.length) && (nwPts b && nwExs a)
def nwExs : List Ex' → Bool
  | [] => true
  | x :: l => nwEx x && nwExs l
end
mutual
def flEx : Ex' → Bool
  | .mk k _ _ _ a b _ => ((k == 8) && gt8 a.length) || (flPts b || flExs a)
def flExs : List Ex' → Bool
  | [] => false
  | x :: l => flEx x || flExs l
end
theorem okExs_any (xs : List Dat) : xs.any (fun y => !okEx (absEx y)) = !okExs (xs.map absEx) := by induction xs with
  | nil => rfl
  | cons x xs ih => simp [okExs, ih]
theorem nwExs_any (xs : List Dat) : xs.any (fun y => !nwEx (absEx y)) = !nwExs (xs.map absEx) := by induction xs with
  | nil => rfl
  | cons x xs ih => simp [nwExs, ih]
theorem opN_nonneg (s : Str) : 0 ≤ opN s := by
  have : ∀ (l : List Str) (i : Int), 0 ≤ i → 0 ≤ ixF s l i := by
    intro l
    induction l with
    | nil => intro i _; exact Int.le_refl _
    | cons x l ih =>
      intro i hi
      simp only [ixF]
      cases (x == s)
      · exact ih _ (by omega)
      · exact hi
  exact this _ _ (by omega)
theorem opN_ne (s : Str) : (opN s != 0) = pos0 (opN s) := by
  have := opN_nonneg s
  unfold pos0
  rw [Bool.eq_iff_iff, bne_iff_ne, decide_eq_true_eq]
  omega
theorem named_ok (x : Dat) (g : Glob) (k1 v1 p1 : Int) (s1 r1 : Str) (a1 b1 : Dat) (hx : x = .agg [.int .i64 k1, .str s1, .str r1, .int .i64 v1, a1, b1, .int .i64 p1]) (ht : HasTy TT 27 x) (hs1 : s1.length ≤ 2 ^ 40) (hr1 : r1.length ≤ 2 ^ 40) (Qf : Out → Glob → Prop) (hQ : Qf (.val (.d (.bool (namedP k1 s1 r1 v1 ((elsOf b1).length : Int))))) g) : EvF TT 129 [x] g Qf := by
  refine w129 ht ?_
  subst hx
  simp only [fld, nth, intOf, strOf]
  repeat' (first
    | refine Br_iff.2 ⟨fun q => ?_, fun q => ?_⟩
    | refine wordLow_ok hs1 ⟨_, rfl, ?_⟩
    | refine wordLow_ok hr1 ⟨_, rfl, ?_⟩
    | refine wordUp_ok hs1 ⟨_, rfl, ?_⟩
    | refine intsIn_ok ⟨_, rfl, ?_⟩
    | refine intsOp_ok hs1 ⟨_, rfl, ?_⟩)
  all_goals (refine qcast hQ ?_; simp_all [namedP, opN_ne]; try (simp [pos0]))
theorem exprOf_ok : ∀ (k : Nat) (x : Dat) (g : Glob), SizeOf.sizeOf x < k → HasTy TT 27 x → ∀ (Qf : Out → Glob → Prop), Qf (.val (.d (.bool (okEx (absEx x))))) g → EvF TT 67 [x] g Qf
  | 0, x, g, hk, _ => by omega
  | k + 1, x, g, hk, hx => by
    intro Qf hQ
    refine w67 hx ?_
    obtain ⟨k1, s1, r1, v1, a1, b1, p1, rfl, hs1, hr1, t1, u1⟩ := expr_ty hx
    simp only [absEx, okEx, absExA_len, absPtA_len] at hQ
    have ex := t1.els undExprs
    have exl := ex.1.1
    have eu := u1.els undPats
    have eul := eu.1.1
    have hc := sizeOf_cell (cs := [.int .i64 k1, .str s1, .str r1, .int .i64 v1, a1, b1, .int .i64 p1]) (c := a1) (by simp)
    have hw : IntKind.i64.wrap (((elsOf b1).length : Int) + 1) = ((elsOf b1).length : Int) + 1 := wrap_id (by omega) (by omega)
    have hl0 : ((([] : List Dat).length : Nat) : Int) = 0 := rfl
    have tail : (namedP k1 s1 r1 v1 ((elsOf b1).length : Int) = true → Qf (.val (.d (.bool (okPts (absPtA b1) && okExs (absExA a1))))) g) → (namedP k1 s1 r1 v1 ((elsOf b1).length : Int) = false → Qf (.val (.d (.bool false))) g) →
        EvF TT 129 [.agg [.int .i64 k1, .str s1, .str r1, .int .i64 v1, a1, b1, .int .i64 p1]] g fun out g' => Outc (fun x => Qf (.panic x) g') (fun v => ∃ b, v = Val.d (.bool b) ∧ Br (!b) (Qf (.val (.d (.bool false))) g') (EvF TT 130 [b1, .clo 131 []] g' fun out g' => Outc (fun x => Qf (.panic x) g') (fun v => ∃ b, v = Val.d (.bool b) ∧ Br (!b) (EvF TT 133 [a1, .clo 134 []] g' fun out g' => Outc (fun x => Qf (.panic x) g') (fun v => ∃ b, v = Val.d (.bool b) ∧ Qf (.val (.d (.bool !b))) g') out) (Qf (.val (.d (.bool false))) g')) out)) out := by
      intro h1 h2
      refine named_ok _ g k1 v1 p1 s1 r1 a1 b1 rfl hx hs1 hr1 _ ⟨_, rfl, Br_iff.2 ⟨fun q => h2 (by simpa using q), fun q => ?_⟩⟩
      have h1 := h1 (by simpa using q)
      refine containsPats_ok (p := fun y => !okPt (absPt y)) u1 (fun y hy Q q => w131 (eu.2 _ hy) (patOf_ok _ y g (Nat.lt_succ_self _) (eu.2 _ hy) _ ⟨_, rfl, q⟩)) ⟨_, rfl, ?_⟩
      rw [okPts_any, Bool.not_not, ← absPtA_map]
      refine Br_iff.2 ⟨fun q => ?_, fun q => ?_⟩
      · rw [q, Bool.true_and] at h1
        exact containsExprs_ok (p := fun y => !okEx (absEx y)) t1 (fun y hy Q q => by
          obtain ⟨i, hi, rfl⟩ := List.getElem_of_mem hy
          have hsz := sizeOf_el hi
          exact w134 (ex.2 _ hy) (exprOf_ok k _ g (by omega) (ex.2 _ hy) _ ⟨_, rfl, q⟩)) ⟨_, rfl, qcast h1 (by rw [okExs_any, Bool.not_not, absExA_map])⟩
      · rw [q, Bool.false_and] at h1
        exact h1
    have hla : ∀ n : Int, n = ((elsOf a1).length : Int) → ¬ n = -1 := fun n h => by omega
    have hlb : ((elsOf b1).length : Int) = 0 ∨ 0 < ((elsOf b1).length : Int) := by omega
    simp only [fld, nth, intOf, strOf, hw, hl0]
    generalize hA : ((elsOf a1).length : Int) = A at *
    generalize hB : ((elsOf b1).length : Int) = B at *
    have hA0 := hla A rfl
    clear hla hA hB hw hl0 exl eul
    repeat' (first
      | refine Br_iff.2 ⟨fun q => ?_, fun q => ?_⟩
      | refine tail (fun h => ?_) (fun h => ?_))
    all_goals (clear tail; refine qcast hQ ?_; clear hQ)
    all_goals (rcases hlb with rfl | hlb)
    all_goals first
      | (simp_all [okEx1, namedP, pos0]; done)
      | (simp_all [okEx1, namedP, pos0]; intro h'; omega)
theorem rNamed_ok (x : Dat) (g : Glob) (k1 v1 p1 : Int) (s1 r1 : Str) (a1 b1 : Dat) (hx : x = .agg [.int .i64 k1, .str s1, .str r1, .int .i64 v1, a1, b1, .int .i64 p1]) (ht : HasTy TT 27 x) (hs1 : s1.length ≤ 2 ^ 40) (hr1 : r1.length ≤ 2 ^ 40) (hl : (elsOf b1).length ≤ 2 ^ 40) (Qf : Out → Glob → Prop) (hQ : Qf (.val (.d (.bool (okEx1 k1 s1 r1 v1 ((elsOf a1).length : Int) ((elsOf b1).length : Int))))) g) : EvF TT 141 [x] g Qf := by
  refine w141 ht ?_
  subst hx
  have hw : IntKind.i64.wrap (((elsOf b1).length : Int) + 1) = ((elsOf b1).length : Int) + 1 := wrap_id (by omega) (by omega)
  simp only [fld, nth, intOf, strOf, hw]
  clear hw hl ht
  repeat' (first
    | refine Br_iff.2 ⟨fun q => ?_, fun q => ?_⟩
    | refine r12lowWord_ok hs1 ⟨_, rfl, ?_⟩
    | refine r12lowWord_ok hr1 ⟨_, rfl, ?_⟩
    | refine r12upWord_ok hs1 ⟨_, rfl, ?_⟩
    | refine r10In_ok ⟨_, rfl, ?_⟩
    | refine r10Op_ok hs1 ⟨_, rfl, ?_⟩)
  all_goals (clear hs1 hr1; refine qcast hQ ?_; clear hQ; simp_all [okEx1, pos0]; try (intro h'; omega))
theorem rExpr_ok : ∀ (k : Nat) (x : Dat) (g : Glob), SizeOf.sizeOf x < k → HasTy TT 27 x → ∀ (Qf : Out → Glob → Prop), Qf (.val (.d (.bool (okEx (absEx x))))) g → EvF TT 76 [x] g Qf
  | 0, x, g, hk, _ => by omega
  | k + 1, x, g, hk, hx => by
    intro Qf hQ
    refine w76 hx ?_
    obtain ⟨k1, s1, r1, v1, a1, b1, p1, rfl, hs1, hr1, t1, u1⟩ := expr_ty hx
    simp only [absEx, okEx, absExA_len, absPtA_len] at hQ
    have ex := t1.els undExprs
    have exl := ex.1.1
    have eu := u1.els undPats
    have eul := eu.1.1
    have hc := sizeOf_cell (cs := [.int .i64 k1, .str s1, .str r1, .int .i64 v1, a1, b1, .int .i64 p1]) (c := a1) (by simp)
    refine rNamed_ok _ g k1 v1 p1 s1 r1 a1 b1 rfl hx hs1 hr1 eul _ ⟨_, rfl, Br_iff.2 ⟨fun q => ?_, fun q => ?_⟩⟩
    · rw [show okEx1 k1 s1 r1 v1 ((elsOf a1).length : Int) ((elsOf b1).length : Int) = false by simpa using q] at hQ
      exact hQ
    · rw [show okEx1 k1 s1 r1 v1 ((elsOf a1).length : Int) ((elsOf b1).length : Int) = true by simpa using q, Bool.true_and, absPtA_map, absExA_map] at hQ
      have args : Qf (.val (.d (.bool (okExs ((elsOf a1).map absEx))))) g → L76_9 0 (.agg [.int .i64 k1, .str s1, .str r1, .int .i64 v1, a1, b1, .int .i64 p1]) g Qf := by
        refine loopUp (len := (elsOf a1).length) (fun i => Qf (.val (.d (.bool (okExs (((elsOf a1).drop i).map absEx))))) g → L76_9 (i : Int) (.agg [.int .i64 k1, .str s1, .str r1, .int .i64 v1, a1, b1, .int .i64 p1]) g Qf) ?_ ?_ 0 (Nat.zero_le _)
        · intro hQ
          refine w76_9 ?_
          rw [show (fld (Dat.agg [.int .i64 k1, .str s1, .str r1, .int .i64 v1, a1, b1, .int .i64 p1]) 4) = a1 from rfl, Br_ge]
          rw [List.drop_length] at hQ
          exact hQ
        · intro i hi ih hQ
          refine w76_9 ?_
          rw [show (fld (Dat.agg [.int .i64 k1, .str s1, .str r1, .int .i64 v1, a1, b1, .int .i64 p1]) 4) = a1 from rfl, Br_lt hi, getE_nat hi]
          have hsz := sizeOf_el hi
          rw [List.drop_eq_getElem_cons hi, List.map_cons, okExs] at hQ
          refine ⟨inB hi, rExpr_ok k _ g (by omega) (ex.2 _ (List.getElem_mem hi)) _ ⟨_, rfl, Br_iff.2 ⟨fun q => ?_, fun q => ?_⟩⟩⟩
          · rw [show okEx (absEx (elsOf a1)[i]) = false by simpa using q] at hQ; exact hQ
          · rw [show okEx (absEx (elsOf a1)[i]) = true by simpa using q, Bool.true_and] at hQ
            rw [wrap_nat (by omega)]
            exact ih hQ
      refine loopUp (len := (elsOf b1).length) (fun i => Qf (.val (.d (.bool (okPts (((elsOf b1).drop i).map absPt) && okExs ((elsOf a1).map absEx))))) g → L76_4 (i : Int) (.agg [.int .i64 k1, .str s1, .str r1, .int .i64 v1, a1, b1, .int .i64 p1]) g Qf) ?_ ?_ 0 (Nat.zero_le _) hQ
      · intro hQ
        refine w76_4 ?_
        rw [show (fld (Dat.agg [.int .i64 k1, .str s1, .str r1, .int .i64 v1, a1, b1, .int .i64 p1]) 5) = b1 from rfl, Br_ge]
        rw [List.drop_length] at hQ
        exact args hQ
      · intro i hi ih hQ
        refine w76_4 ?_
        rw [show (fld (Dat.agg [.int .i64 k1, .str s1, .str r1, .int .i64 v1, a1, b1, .int .i64 p1]) 5) = b1 from rfl, Br_lt hi, getE_nat hi]
        rw [List.drop_eq_getElem_cons hi, List.map_cons, okPts] at hQ
        refine ⟨inB hi, rPat_ok _ _ g (Nat.lt_succ_self _) (eu.2 _ (List.getElem_mem hi)) _ ⟨_, rfl, Br_iff.2 ⟨fun q => ?_, fun q => ?_⟩⟩⟩
        · rw [show okPt (absPt (elsOf b1)[i]) = false by simpa using q] at hQ; exact hQ
        · rw [show okPt (absPt (elsOf b1)[i]) = true by simpa using q, Bool.true_and] at hQ
          rw [wrap_nat (by omega)]
          exact ih hQ
theorem narrow_ok : ∀ (k : Nat) (x : Dat) (g : Glob), SizeOf.sizeOf x < k → HasTy TT 27 x → ∀ (Qf : Out → Glob → Prop), Qf (.val (.d (.bool (nwEx (absEx x))))) g → EvF TT 103 [x] g Qf
  | 0, x, g, hk, _ => by omega
  | k + 1, x, g, hk, hx => by
    intro Qf hQ
    refine w103 hx ?_
    obtain ⟨k1, s1, r1, v1, a1, b1, p1, rfl, hs1, hr1, t1, u1⟩ := expr_ty hx
    simp only [absEx, nwEx, absExA_len, absPtA_len] at hQ
    have ex := t1.els undExprs
    have eu := u1.els undPats
    have hc := sizeOf_cell (cs := [.int .i64 k1, .str s1, .str r1, .int .i64 v1, a1, b1, .int .i64 p1]) (c := a1) (by simp)
    simp only [fld, nth, intOf, strOf]
    have tail : Qf (.val (.d (.bool (nwPts (absPtA b1) && nwExs (absExA a1))))) g → EvF TT 130 [b1, .clo 183 []] g fun out g' => Outc (fun x => Qf (.panic x) g') (fun v => ∃ b, v = Val.d (.bool b) ∧ Br (!b) (EvF TT 133 [a1, .clo 185 []] g' fun out g' => Outc (fun x => Qf (.panic x) g') (fun v => ∃ b, v = Val.d (.bool b) ∧ Qf (.val (.d (.bool !b))) g') out) (Qf (.val (.d (.bool false))) g')) out := by
      intro h1
      refine containsPats_ok (p := fun y => !nwPt (absPt y)) u1 (fun y hy Q q => w183 (eu.2 _ hy) (patNarrow_ok _ y g (Nat.lt_succ_self _) (eu.2 _ hy) _ ⟨_, rfl, q⟩)) ⟨_, rfl, ?_⟩
      rw [nwPts_any, Bool.not_not, ← absPtA_map]
      refine Br_iff.2 ⟨fun q => ?_, fun q => ?_⟩
      · rw [q, Bool.true_and] at h1
        exact containsExprs_ok (p := fun y => !nwEx (absEx y)) t1 (fun y hy Q q => by
          obtain ⟨i, hi, rfl⟩ := List.getElem_of_mem hy
          have hsz := sizeOf_el hi
          exact w185 (ex.2 _ hy) (narrow_ok k _ g (by omega) (ex.2 _ hy) _ ⟨_, rfl, q⟩)) ⟨_, rfl, qcast h1 (by rw [nwExs_any, Bool.not_not, absExA_map])⟩
      · rw [q, Bool.false_and] at h1
        exact h1
    refine Br_iff.2 ⟨fun q => Br_iff.2 ⟨fun q' => ?_, fun q' => ?_⟩, fun q => ?_⟩
    · rw [q, show gt8 _ = true from q'] at hQ; exact hQ
    · rw [q, show gt8 _ = false from q'] at hQ; exact tail hQ
    · rw [q] at hQ; exact tail hQ
theorem fullExpr_ok : ∀ (k : Nat) (x : Dat) (g : Glob), SizeOf.sizeOf x < k → HasTy TT 27 x → ∀ (Qf : Out → Glob → Prop), Qf (.val (.d (.bool (flEx (absEx x))))) g → EvF TT 114 [x] g Qf
  | 0, x, g, hk, _ => by omega
  | k + 1, x, g, hk, hx => by
    intro Qf hQ
    refine w114 hx ?_
    obtain ⟨k1, s1, r1, v1, a1, b1, p1, rfl, hs1, hr1, t1, u1⟩ := expr_ty hx
    simp only [absEx, flEx, absExA_len, absPtA_len] at hQ
    have ex := t1.els undExprs
    have exl := ex.1.1
    have eu := u1.els undPats
    have eul := eu.1.1
    have hc := sizeOf_cell (cs := [.int .i64 k1, .str s1, .str r1, .int .i64 v1, a1, b1, .int .i64 p1]) (c := a1) (by simp)
    simp only [fld, nth, intOf, strOf]
    have rest : ((k1 == 8) && gt8 ((elsOf a1).length : Int)) = false → L114_4 0 (.agg [.int .i64 k1, .str s1, .str r1, .int .i64 v1, a1, b1, .int .i64 p1]) g Qf := by
      intro hb
      rw [hb, Bool.false_or, absPtA_map, absExA_map] at hQ
      have args : Qf (.val (.d (.bool (flExs ((elsOf a1).map absEx))))) g → L114_9 0 (.agg [.int .i64 k1, .str s1, .str r1, .int .i64 v1, a1, b1, .int .i64 p1]) g Qf := by
        refine loopUp (len := (elsOf a1).length) (fun i => Qf (.val (.d (.bool (flExs (((elsOf a1).drop i).map absEx))))) g → L114_9 (i : Int) (.agg [.int .i64 k1, .str s1, .str r1, .int .i64 v1, a1, b1, .int .i64 p1]) g Qf) ?_ ?_ 0 (Nat.zero_le _)
        · intro hQ
          refine w114_9 ?_
          rw [show (fld (Dat.agg [.int .i64 k1, .str s1, .str r1, .int .i64 v1, a1, b1, .int .i64 p1]) 4) = a1 from rfl, Br_ge]
          rw [List.drop_length] at hQ
          exact hQ
        · intro i hi ih hQ
          refine w114_9 ?_
          rw [show (fld (Dat.agg [.int .i64 k1, .str s1, .str r1, .int .i64 v1, a1, b1, .int .i64 p1]) 4) = a1 from rfl, Br_lt hi, getE_nat hi]
          have hsz := sizeOf_el hi
          rw [List.drop_eq_getElem_cons hi, List.map_cons, flExs] at hQ
          refine ⟨inB hi, fullExpr_ok k _ g (by omega) (ex.2 _ (List.getElem_mem hi)) _ ⟨_, rfl, Br_iff.2 ⟨fun q => ?_, fun q => ?_⟩⟩⟩
          · rw [q] at hQ; exact hQ
          · rw [q, Bool.false_or] at hQ
            rw [wrap_nat (by omega)]
            exact ih hQ
      refine loopUp (len := (elsOf b1).length) (fun i => Qf (.val (.d (.bool (flPts (((elsOf b1).drop i).map absPt) || flExs ((elsOf a1).map absEx))))) g → L114_4 (i : Int) (.agg [.int .i64 k1, .str s1, .str r1, .int .i64 v1, a1, b1, .int .i64 p1]) g Qf) ?_ ?_ 0 (Nat.zero_le _) hQ
      · intro hQ
        refine w114_4 ?_
        rw [show (fld (Dat.agg [.int .i64 k1, .str s1, .str r1, .int .i64 v1, a1, b1, .int .i64 p1]) 5) = b1 from rfl, Br_ge]
        rw [List.drop_length] at hQ
        exact args hQ
      · intro i hi ih hQ
        refine w114_4 ?_
        rw [show (fld (Dat.agg [.int .i64 k1, .str s1, .str r1, .int .i64 v1, a1, b1, .int .i64 p1]) 5) = b1 from rfl, Br_lt hi, getE_nat hi]
        rw [List.drop_eq_getElem_cons hi, List.map_cons, flPts, Bool.or_assoc] at hQ
        refine ⟨inB hi, fullPat_ok _ _ g (Nat.lt_succ_self _) (eu.2 _ (List.getElem_mem hi)) _ ⟨_, rfl, Br_iff.2 ⟨fun q => ?_, fun q => ?_⟩⟩⟩
        · rw [q] at hQ; exact hQ
        · rw [q, Bool.false_or] at hQ
          rw [wrap_nat (by omega)]
          exact ih hQ
    refine Br_iff.2 ⟨fun q => Br_iff.2 ⟨fun q' => ?_, fun q' => ?_⟩, fun q => ?_⟩
    · rw [q, show gt8 _ = true from q'] at hQ; exact hQ
    · exact rest (by rw [q, show gt8 _ = false from q']; rfl)
    · exact rest (by rw [q]; rfl)
mutual
theorem nw_flEx : ∀ x : Ex', okEx x = true → nwEx x = !flEx x
  | .mk k s r n a b p => fun h => by
    simp only [okEx, Bool.and_eq_true] at h
    simp only [nwEx, flEx, nws_fls b h.2.1, nws_flsEx a h.2.2, Bool.not_or]
theorem nws_flsEx : ∀ l : List Ex', okExs l = true → nwExs l = !flExs l
  | [] => fun _ => rfl
  | x :: l => fun h => by
    simp only [okExs, Bool.and_eq_true] at h
    simp only [nwExs, flExs, nw_flEx x h.1, nws_flsEx l h.2, Bool.not_or]
end
end Go.Proofs.YtgmapdcdmomioaaGreatDoor.Pa
