/- The document's comparison of programs; the program's own. -/
import Derived.Test.YtgmapdcdmomioaaGreatDoorPdA
import Derived.Test.YtgmapdcdmomioaaGreatDoorPwB
set_option linter.all false
set_option linter.all false
set_option autoImplicit false
set_option maxRecDepth 100000
namespace Go.Proofs.YtgmapdcdmomioaaGreatDoor.Pa
open Go Go.Proofs.YtgmapdcdmomioaaGreatDoor.Am
def eqCn (c d : Cn) : Bool := c.s == d.s && eqTys c.fs d.fs
def eqDc (pl : Bool) (c d : Dc) : Bool := c.s == d.s && ((!pl || c.p == d.p) && (eqBy (fun a b => a == b) c.ps d.ps && eqBy eqCn c.cs d.cs))
def eqPg (pl : Bool) (p q : Pg) : Bool := eqBy (eqDc pl) p.ds q.ds && eqEx pl p.e q.e
theorem absDc_agg (s : Str) (a b : Dat) (k : IntKind) (p : Int) : absDc (.agg [.str s, a, b, .int k p]) = ⟨s, (elsOf a).map strOf, (elsOf b).map absCn, p⟩ := rfl
theorem absCn_agg (s : Str) (a : Dat) : absCn (.agg [.str s, a]) = ⟨s, absTyA a⟩ := rfl
theorem eqDc_mk (pl : Bool) (s s' : Str) (a a' : List Str) (b b' : List Cn) (p p' : Int) : eqDc pl ⟨s, a, b, p⟩ ⟨s', a', b', p'⟩ = (s == s' && ((!pl || p == p') && (eqBy (fun a b => a == b) a a' && eqBy eqCn b b'))) := rfl
theorem eqCn_mk (s s' : Str) (a a' : List Ty) : eqCn ⟨s, a⟩ ⟨s', a'⟩ = (s == s' && eqTys a a') := rfl
theorem len_le {x : Dat} {t u : TypeId} (hu : TT.und t = some (.slice u)) (hx : HasTy TT t x) : (elsOf x).length ≤ 2 ^ 40 := (hx.els hu).1.1
theorem declsOk (pl : Bool) (x y : Dat) (g : Glob) (hx : HasTy TT 23 x) (hy : HasTy TT 23 y) (Qf : Out → Glob → Prop) (hQ : Qf (.val (.d (.bool (eqBy (eqDc pl) ((elsOf x).map absDc) ((elsOf y).map absDc))))) g) : EvF TT 33 [x, y, .bool pl] g Qf := by
  have ex := hx.els undDecls
  have ey := hy.els undDecls
  have exl := ex.1.1
  rw [eqBy_map] at hQ
  refine w33 hx hy ?_
  by_cases hl : (elsOf x).length = (elsOf y).length
  · rw [ne_false hl, Br_false]
    generalize hR : eqBy (fun a b => eqDc pl (absDc a) (absDc b)) (elsOf x) (elsOf y) = R at hQ
    refine loopUp (len := (elsOf x).length) (fun i => eqBy (fun a b => eqDc pl (absDc a) (absDc b)) ((elsOf x).drop i) ((elsOf y).drop i) = R → L33_4 x y pl (i : Int) g Qf) ?_ ?_ 0 (Nat.zero_le _) hR
    · intro h
      rw [List.drop_length, hl, List.drop_length] at h
      refine w33_4 ?_
      rw [Br_ge]
      subst h
      exact hQ
    · intro i hi ih h
      have hj : i < (elsOf y).length := by omega
      refine w33_4 ?_
      rw [Br_lt hi, getE_nat hi, getE_nat hj]
      rw [eqBy_drop hi hj] at h
      obtain ⟨s1, a1, b1, p1, e1, _, ta1, tb1⟩ := decl_ty (ex.2 _ (List.getElem_mem hi))
      obtain ⟨s2, a2, b2, p2, e2, _, ta2, tb2⟩ := decl_ty (ey.2 _ (List.getElem_mem hj))
      rw [e1] at h ⊢
      rw [e2] at h ⊢
      have ea1 := ta1.els undStrs
      have ea2 := ta2.els undStrs
      have eb1 := tb1.els undCons
      have eb2 := tb2.els undCons
      have la1 := ea1.1.1
      have lb1 := eb1.1.1
      simp only [absDc_agg, eqDc_mk] at h
      refine ⟨inB hi, inB hj, Br_iff.2 ⟨fun q => ?_, fun q => ?_⟩⟩
      all_goals simp [fld, nth, strOf] at q
      · exact (by rw [← h]; simp [q] : R = false) ▸ hQ
      subst q
      simp only [beq_self_eq_true, Bool.true_and] at h
      -- what follows, when the places are alike
      have cons : (!pl || p1 == p2) = true → (elsOf b1).length = (elsOf b2).length → eqBy (fun a b => a == b) ((elsOf a1).map strOf) ((elsOf a2).map strOf) = true →
          L33_15 x y pl (i : Int) 0 (.agg [.str s1, a2, b2, .int .i64 p2]) (.agg [.str s1, a1, b1, .int .i64 p1]) g Qf := by
        intro hp hlb ha
        rw [hp, ha] at h
        simp only [Bool.true_and] at h
        rw [eqBy_map] at h
        generalize hR2 : eqBy (fun a b => eqCn (absCn a) (absCn b)) (elsOf b1) (elsOf b2) = R2 at h
        refine loopUp (len := (elsOf b1).length) (fun j => eqBy (fun a b => eqCn (absCn a) (absCn b)) ((elsOf b1).drop j) ((elsOf b2).drop j) = R2 → L33_15 x y pl (i : Int) (j : Int) (.agg [.str s1, a2, b2, .int .i64 p2]) (.agg [.str s1, a1, b1, .int .i64 p1]) g Qf) ?_ ?_ 0 (Nat.zero_le _) hR2
        · intro h2
          rw [List.drop_length, hlb, List.drop_length] at h2
          refine w33_15 ?_
          rw [show (fld (Dat.agg [.str s1, a1, b1, .int .i64 p1]) 2) = b1 from rfl, Br_ge]
          rw [wrap_nat (by omega)]
          refine ih ?_
          rw [← h, ← h2]
          rfl
        · intro j hj1 ih2 h2
          have hj2 : j < (elsOf b2).length := by omega
          refine w33_15 ?_
          rw [show (fld (Dat.agg [.str s1, a1, b1, .int .i64 p1]) 2) = b1 from rfl, show (fld (Dat.agg [.str s1, a2, b2, .int .i64 p2]) 2) = b2 from rfl, Br_lt hj1, getE_nat hj1, getE_nat hj2]
          rw [eqBy_drop hj1 hj2] at h2
          obtain ⟨t1, f1, d1, _, tf1⟩ := con_ty (eb1.2 _ (List.getElem_mem hj1))
          obtain ⟨t2, f2, d2, _, tf2⟩ := con_ty (eb2.2 _ (List.getElem_mem hj2))
          rw [d1] at h2 ⊢
          rw [d2] at h2 ⊢
          simp only [absCn_agg, eqCn_mk] at h2
          refine ⟨inB hj1, inB hj2, Br_iff.2 ⟨fun q => ?_, fun q => ⟨inB hj1, inB hj2, ?_⟩⟩⟩
          all_goals simp [fld, nth, strOf] at q
          · exact (by rw [← h, ← h2]; simp [q] : R = false) ▸ hQ
          subst q
          simp only [beq_self_eq_true, Bool.true_and] at h2
          refine sameTypes_ok _ f1 f2 g (Nat.lt_succ_self _) tf1 tf2 _ ⟨_, rfl, Br_iff.2 ⟨fun q => ?_, fun q => ?_⟩⟩
          · exact (by rw [← h, ← h2]; simp at q; simp [q] : R = false) ▸ hQ
          · rw [wrap_nat (by omega)]
            refine ih2 ?_
            rw [← h2]
            simp at q
            simp [q]
      have pars : (!pl || p1 == p2) = true → (elsOf a1).length = (elsOf a2).length → (elsOf b1).length = (elsOf b2).length →
          L33_10 x y pl (i : Int) 0 (.agg [.str s1, a2, b2, .int .i64 p2]) (.agg [.str s1, a1, b1, .int .i64 p1]) g Qf := by
        intro hp hla hlb
        generalize hR2 : eqBy (fun a b => a == b) ((elsOf a1).map strOf) ((elsOf a2).map strOf) = R2 at h cons
        rw [eqBy_map] at hR2
        refine loopUp (len := (elsOf a1).length) (fun j => eqBy (fun a b => strOf a == strOf b) ((elsOf a1).drop j) ((elsOf a2).drop j) = R2 → L33_10 x y pl (i : Int) (j : Int) (.agg [.str s1, a2, b2, .int .i64 p2]) (.agg [.str s1, a1, b1, .int .i64 p1]) g Qf) ?_ ?_ 0 (Nat.zero_le _) hR2
        · intro h2
          rw [List.drop_length, hla, List.drop_length] at h2
          refine w33_10 ?_
          rw [show (fld (Dat.agg [.str s1, a1, b1, .int .i64 p1]) 1) = a1 from rfl, Br_ge]
          exact cons hp hlb (by rw [← h2]; rfl)
        · intro j hj1 ih2 h2
          have hj2 : j < (elsOf a2).length := by omega
          refine w33_10 ?_
          rw [show (fld (Dat.agg [.str s1, a1, b1, .int .i64 p1]) 1) = a1 from rfl, show (fld (Dat.agg [.str s1, a2, b2, .int .i64 p2]) 1) = a2 from rfl, Br_lt hj1, getE_nat hj1, getE_nat hj2]
          rw [eqBy_drop hj1 hj2] at h2
          obtain ⟨t1, d1, _⟩ := str_ty (ea1.2 _ (List.getElem_mem hj1))
          obtain ⟨t2, d2, _⟩ := str_ty (ea2.2 _ (List.getElem_mem hj2))
          rw [d1] at h2 ⊢
          rw [d2] at h2 ⊢
          simp only [strOf] at h2
          refine ⟨inB hj1, inB hj2, Br_iff.2 ⟨fun q => ?_, fun q => ?_⟩⟩
          all_goals simp [fld, strOf] at q
          · exact (by rw [← h, ← h2]; simp [q] : R = false) ▸ hQ
          subst q
          simp only [beq_self_eq_true, Bool.true_and] at h2
          rw [wrap_nat (by omega)]
          exact ih2 h2
      have lens : (!pl || p1 == p2) = true → Br ((↑(elsOf a1).length : Int) != (↑(elsOf a2).length : Int)) (Qf (Out.val (Val.d (Dat.bool false))) g) (Br ((↑(elsOf b1).length : Int) != (↑(elsOf b2).length : Int)) (Qf (Out.val (Val.d (Dat.bool false))) g) (L33_10 x y pl (i : Int) 0 (.agg [.str s1, a2, b2, .int .i64 p2]) (.agg [.str s1, a1, b1, .int .i64 p1]) g Qf)) := by
        intro hp
        by_cases h1 : (elsOf a1).length = (elsOf a2).length
        · rw [ne_false h1, Br_false]
          by_cases h2 : (elsOf b1).length = (elsOf b2).length
          · rw [ne_false h2, Br_false]
            exact pars hp h1 h2
          · rw [ne_true h2, Br_true]
            exact (by rw [← h, eqBy_len (f := eqCn) (by simpa using h2)]; simp : R = false) ▸ hQ
        · rw [ne_true h1, Br_true]
          exact (by rw [← h, eqBy_len (f := fun a b => a == b) (by simpa using h1)]; simp : R = false) ▸ hQ
      refine Br_iff.2 ⟨fun hp => Br_iff.2 ⟨fun q => ?_, fun q => lens ?_⟩, fun hp => lens (by simp [hp])⟩
      · simp [fld, nth, intOf] at q
        exact (by rw [← h]; simp [hp, q] : R = false) ▸ hQ
      · simp [fld, nth, intOf] at q
        simp [q]
  · rw [ne_true hl, Br_true]
    rw [eqBy_len hl] at hQ
    exact hQ
theorem one_expr {x : Dat} (hx : HasTy TT 27 x) : HasTy TT 24 (.sl 7 [x]) :=
  .sl _ _ _ _ undExprs (by kernel_rfl) ⟨by simp, fun b hb => by
    have : TT.bytes 27 = some 104 := by kernel_rfl
    rw [this] at hb; cases hb; simp⟩ (by simpa using hx)
theorem refSame_ok (pl : Bool) (x y : Dat) (g : Glob) (hx : HasTy TT 29 x) (hy : HasTy TT 29 y) (Qf : Out → Glob → Prop) (hQ : Qf (.val (.d (.bool (eqPg pl (absPg x) (absPg y))))) g) : EvF TT 18 [x, y, .bool pl] g Qf := by
  refine w18 hx hy ?_
  obtain ⟨d1, k1, s1, r1, n1, a1, b1, p1, rfl, hd1, he1⟩ := prog_ty hx
  obtain ⟨d2, k2, s2, r2, n2, a2, b2, p2, rfl, hd2, he2⟩ := prog_ty hy
  simp only [eqPg, absPg] at hQ
  refine declsOk pl d1 d2 g hd1 hd2 _ ⟨_, rfl, Br_iff.2 ⟨fun q => ?_, fun q => ?_⟩⟩
  · refine sameExprs_ok pl _ _ _ g (Nat.lt_succ_self _) (one_expr he1) (one_expr he2) _ ⟨_, rfl, ?_⟩
    have : eqBy (eqDc pl) ((elsOf (fld (.agg [d1, .int .i64 k1, .str s1, .str r1, .int .i64 n1, a1, b1, .int .i64 p1]) 0)).map absDc) ((elsOf (fld (.agg [d2, .int .i64 k2, .str s2, .str r2, .int .i64 n2, a2, b2, .int .i64 p2]) 0)).map absDc) = true := q
    rw [this, Bool.true_and] at hQ
    simpa [absExA, absExL, eqExs, sub] using hQ
  · have : eqBy (eqDc pl) ((elsOf (fld (.agg [d1, .int .i64 k1, .str s1, .str r1, .int .i64 n1, a1, b1, .int .i64 p1]) 0)).map absDc) ((elsOf (fld (.agg [d2, .int .i64 k2, .str s2, .str r2, .int .i64 n2, a2, b2, .int .i64 p2]) 0)).map absDc) = false := q
    rw [this, Bool.false_and] at hQ
    exact hQ
end Go.Proofs.YtgmapdcdmomioaaGreatDoor.Pa
