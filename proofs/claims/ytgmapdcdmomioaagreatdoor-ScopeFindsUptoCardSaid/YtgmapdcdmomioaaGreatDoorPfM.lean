/- Limits as the document has them; which declared types and programs may be. -/
import Derived.Test.YtgmapdcdmomioaaGreatDoorPfL
set_option linter.all false
set_option linter.all false
set_option autoImplicit false
set_option maxRecDepth 100000
namespace Go.Proofs.YtgmapdcdmomioaaGreatDoor.Pa
open Go Go.Proofs.YtgmapdcdmomioaaGreatDoor.Am
def g256 (n : Nat) : Bool := decide (256 < n)
theorem g256_max (a b : Nat) : g256 (max a b) = (g256 a || g256 b) := by
  unfold g256
  rw [Bool.eq_iff_iff]
  simp only [Bool.or_eq_true, decide_eq_true_eq]
  omega
theorem gtI_256 (n : Nat) : gtI 256 (n : Int) = g256 n := by
  unfold gtI g256
  exact decide_eq_decide.2 (by omega)
section
variable {g : Glob} {Qf : Out → Glob → Prop}
def lim3 (bad deep : Bool) : Int := bif bad then 3 else bif deep then 4 else 0
theorem rlimTypes {y5 y1 c1 f1 : Dat} {q n4 : Nat} (hq : q < (elsOf (fld y5 2)).length) (hc : (elsOf (fld y5 2))[q] = c1) (hf1 : fld c1 1 = f1) (hf : HasTy TT 89 f1) (b : Bool) (h : L52_11 (b || g256 (dpTys ((elsOf f1).map absTy))) (n4 : Int) (IntKind.i64.wrap ((q : Int) + 1)) y5 y1 g Qf) :
    L52_16 b (n4 : Int) (q : Int) 0 y5 y1 g Qf := by
  have ef := hf.els undTypes
  have efl := ef.1.1
  refine loopUp (len := (elsOf f1).length) (fun i => ∀ b : Bool, L52_11 (b || g256 (dpTys (((elsOf f1).drop i).map absTy))) (n4 : Int) (IntKind.i64.wrap ((q : Int) + 1)) y5 y1 g Qf → L52_16 b (n4 : Int) (q : Int) (i : Int) y5 y1 g Qf) ?_ ?_ 0 (Nat.zero_le _) b h
  · intro b h
    refine w52_16 ⟨inB hq, ?_⟩
    rw [getE_nat hq, hc, hf1, Br_ge]
    rw [List.drop_length] at h
    rw [show (b || g256 (dpTys (([] : List Dat).map absTy))) = b by cases b <;> rfl] at h
    exact h
  · intro i hi ih b h
    refine w52_16 ⟨inB hq, ?_⟩
    rw [getE_nat hq, hc, hf1, Br_lt hi]
    rw [dpTys_drop hi, g256_max, ← Bool.or_assoc] at h
    cases b with
    | true =>
      rw [wrap_nat (by omega)]
      exact ih true (by simpa using h)
    | false =>
      refine ⟨inB hq, inB hi, ?_⟩
      rw [getE_nat hi]
      refine deepType_ok _ _ g 256 (Nat.lt_succ_self _) (ef.2 _ (List.getElem_mem hi)) (by omega) _ ⟨_, rfl, ?_⟩
      rw [wrap_nat (by omega)]
      exact ih _ h
theorem limits_ok {x : Dat} (hx : HasTy TT 29 x) (hQ : Qf (.val (.d (.int .i64 (limF (!flEx (absPg x).e) (absPg x))))) g) : EvF TT 52 [x] g Qf := by
  refine w52 hx ?_
  unfold limF at hQ
  obtain ⟨d1, k1, s1, r1, n1, a1, b1, p1, rfl, hd1, he1⟩ := prog_ty hx
  have e0 : (absPg (.agg [d1, .int .i64 k1, .str s1, .str r1, .int .i64 n1, a1, b1, .int .i64 p1])).ds = (elsOf d1).map absDc := rfl
  have e1 : (absPg (.agg [d1, .int .i64 k1, .str s1, .str r1, .int .i64 n1, a1, b1, .int .i64 p1])).e = absEx (.agg [.int .i64 k1, .str s1, .str r1, .int .i64 n1, a1, b1, .int .i64 p1]) := rfl
  rw [e0, List.length_map, gtI_256, Bool.not_not] at hQ
  refine Br_iff.2 ⟨fun q => ?_, fun q => refSize_ok _ g hx _ ⟨_, rfl, Br_iff.2 ⟨fun q' => ?_, fun q' => fullExpr_ok _ _ g (Nat.lt_succ_self _) he1 _ ⟨_, rfl, Br_iff.2 ⟨fun q2 => ?_, fun q2 => deepExpr_ok _ _ g 256 (Nat.lt_succ_self _) he1 (by omega) _ ⟨_, rfl, ?_⟩⟩⟩⟩⟩⟩
  · rw [show gtI 32 ((elsOf d1).length : Int) = true from q] at hQ
    exact hQ
  · rw [show gtI 2048 _ = true from q'] at hQ
    simpa using hQ
  · rw [e1, q2] at hQ
    simpa using hQ
  · rw [show gtI 32 ((elsOf d1).length : Int) = false from q, show gtI 2048 _ = false from q', e1, q2] at hQ
    simp only [Bool.or_false, cond_false] at hQ
    have ed := hd1.els undDecls
    have edl := ed.1.1
    have hQ : Qf (.val (.d (.int .i64 (lim3 (((elsOf d1).map absDc).any badDc) (decide (256 < dpEx (absEx (.agg [.int .i64 k1, .str s1, .str r1, .int .i64 n1, a1, b1, .int .i64 p1]))) || g256 (dpDcs ((elsOf d1).map absDc))))))) g := qint hQ (by
      rw [g256_max]
      rfl)
    have h0 : fld (.agg [d1, .int .i64 k1, .str s1, .str r1, .int .i64 n1, a1, b1, .int .i64 p1]) 0 = d1 := rfl
    generalize decide (256 < dpEx (absEx (.agg [.int .i64 k1, .str s1, .str r1, .int .i64 n1, a1, b1, .int .i64 p1]))) = b at hQ
    generalize hY : Dat.agg [d1, .int .i64 k1, .str s1, .str r1, .int .i64 n1, a1, b1, .int .i64 p1] = Y at h0
    clear hY
    refine loopUp (len := (elsOf d1).length) (fun i => ∀ b : Bool, Qf (.val (.d (.int .i64 (lim3 ((((elsOf d1).drop i).map absDc).any badDc) (b || g256 (dpDcs (((elsOf d1).drop i).map absDc))))))) g → L52_5 b (i : Int) Y g Qf) ?_ ?_ 0 (Nat.zero_le _) b hQ
    · intro b hQ
      refine w52_5 ?_
      rw [h0, Br_ge]
      rw [List.drop_length] at hQ
      cases b
      · exact hQ
      · exact hQ
    · intro i hi ih b hQ
      refine w52_5 ?_
      rw [h0, Br_lt hi, getE_nat hi]
      rw [drop_map_cons hi, List.any_cons, dpDcs, absDc_cs, g256_max] at hQ
      have ht := ed.2 _ (List.getElem_mem hi)
      obtain ⟨s2, a2, b2, p2, e2, _, ha2, hb2⟩ := decl_ty ht
      have eb := hb2.els undCons
      have ebl := eb.1.1
      have hbad : badDc (absDc (elsOf d1)[i]) = (gtI 4 ((elsOf a2).length : Int) || (gtI 32 ((elsOf b2).length : Int) || ((elsOf b2).map absCn).any badCn)) := by
        rw [e2]
        unfold badDc
        rw [absDc_ps, absDc_cs, List.length_map, List.length_map]
        rfl
      rw [hbad] at hQ
      rw [e2] at hQ ⊢
      have hf : fld (Dat.agg [.str s2, a2, b2, .int .i64 p2]) 2 = b2 := rfl
      have hf' : fld (Dat.agg [.str s2, a2, b2, .int .i64 p2]) 1 = a2 := rfl
      rw [hf] at hQ
      rw [hf, hf']
      generalize Dat.agg [.str s2, a2, b2, .int .i64 p2] = D at hf
      refine ⟨inB hi, Br_iff.2 ⟨fun q => ?_, fun q => Br_iff.2 ⟨fun q' => ?_, fun q' => ?_⟩⟩⟩
      · rw [show gtI 4 ((elsOf a2).length : Int) = true from q] at hQ; exact hQ
      · rw [show gtI 32 ((elsOf b2).length : Int) = true from q'] at hQ
        exact qint hQ (by simp [lim3])
      · rw [show gtI 4 ((elsOf a2).length : Int) = false from q, show gtI 32 ((elsOf b2).length : Int) = false from q'] at hQ
        simp only [Bool.false_or] at hQ
        refine loopUp (len := (elsOf b2).length) (fun j => ∀ b : Bool, Qf (.val (.d (.int .i64 (lim3 ((((elsOf b2).drop j).map absCn).any badCn || (((elsOf d1).drop (i + 1)).map absDc).any badDc) (b || (g256 (dpCns (((elsOf b2).drop j).map absCn)) || g256 (dpDcs (((elsOf d1).drop (i + 1)).map absDc)))))))) g → L52_11 b (i : Int) (j : Int) D Y g Qf) ?_ ?_ 0 (Nat.zero_le _) b hQ
        · intro b hQ
          refine w52_11 ?_
          rw [hf, Br_ge, wrap_nat (by omega)]
          rw [List.drop_length] at hQ
          exact ih b hQ
        · intro j hj ihj b hQ
          have hj' : j < (elsOf (fld D 2)).length := by rw [hf]; exact hj
          refine w52_11 ?_
          rw [Br_lt hj', getE_nat hj']
          rw [drop_map_cons hj, List.any_cons, dpCns, absCn_fs, g256_max] at hQ
          have hcj : (elsOf (fld D 2))[j] = (elsOf b2)[j] := by simp only [hf]
          rw [hcj]
          obtain ⟨s3, f1, e3, _, hf1⟩ := con_ty (eb.2 _ (List.getElem_mem hj))
          have hc : badCn (absCn (elsOf b2)[j]) = gtI 8 ((elsOf f1).length : Int) := by
            unfold badCn
            rw [absCn_len, e3]
            rfl
          rw [hc] at hQ
          rw [e3] at hQ hcj ⊢
          have hf2 : fld (Dat.agg [.str s3, f1]) 1 = f1 := rfl
          rw [hf2] at hQ
          rw [hf2]
          refine ⟨inB hj', Br_iff.2 ⟨fun q => ?_, fun q => ?_⟩⟩
          · rw [show gtI 8 ((elsOf f1).length : Int) = true from q] at hQ; exact hQ
          · rw [show gtI 8 ((elsOf f1).length : Int) = false from q] at hQ
            simp only [Bool.false_or] at hQ
            refine rlimTypes hj' hcj hf2 hf1 b ?_
            rw [wrap_nat (by omega)]
            refine ihj _ (qint hQ ?_)
            rw [Bool.or_assoc b, Bool.or_assoc]
/-! ### Declared types -/
def okCn (c : Cn) : Bool := wUp c.s && okTys c.fs
def okDc (d : Dc) : Bool := wLow d.s && (!((d.cs.length : Int) == 0) && (d.ps.all wVar && d.cs.all okCn))
theorem declOf_ok {x : Dat} (hx : HasTy TT 76 x) (hp : (∀ s ∈ (absDc x).ps, s.length < 2 ^ 40) ∧ ∀ c ∈ (absDc x).cs, ∀ t ∈ c.fs, vrTy t = true) (hQ : Qf (.val (.d (.bool (okDc (absDc x))))) g) : EvF TT 70 [x] g Qf := by
  refine w70 hx ?_
  obtain ⟨s2, a2, b2, p2, rfl, hs2, ha2, hb2⟩ := decl_ty hx
  have ea := ha2.els undStrs
  have eal := ea.1.1
  have eb := hb2.els undCons
  have ebl := eb.1.1
  have e1 : okDc (absDc (.agg [.str s2, a2, b2, .int .i64 p2])) = (wLow s2 && (!(((elsOf b2).length : Int) == 0) && (((elsOf a2).map strOf).all wVar && ((elsOf b2).map absCn).all okCn))) := by
    unfold okDc
    rw [absDc_cs, absDc_ps, List.length_map]
    rfl
  rw [e1] at hQ
  obtain ⟨hp1, hp2⟩ := hp
  have hp1 : ∀ s ∈ (elsOf a2).map strOf, s.length < 2 ^ 40 := hp1
  have hp2 : ∀ c ∈ (elsOf b2).map absCn, ∀ t ∈ c.fs, vrTy t = true := hp2
  simp only [fld, nth, strOf]
  have cons : Qf (.val (.d (.bool (((elsOf b2).map absCn).all okCn)))) g → L70_10 b2 ((elsOf b2).length : Int) 0 g Qf := by
    refine loopUp (len := (elsOf b2).length) (fun i => Qf (.val (.d (.bool ((((elsOf b2).drop i).map absCn).all okCn)))) g → L70_10 b2 ((elsOf b2).length : Int) (i : Int) g Qf) ?_ ?_ 0 (Nat.zero_le _)
    · intro hQ
      refine w70_10 ?_
      rw [Br_ge]
      rw [List.drop_length] at hQ
      exact hQ
    · intro i hi ih hQ
      refine w70_10 ?_
      rw [Br_lt hi, getE_nat hi]
      rw [drop_map_cons hi, List.all_cons, okCn, absCn_fs] at hQ
      have hp3 := hp2 _ (List.mem_map.2 ⟨_, List.getElem_mem hi, rfl⟩)
      rw [absCn_fs] at hp3
      obtain ⟨s3, f1, e3, hs3, hf1⟩ := con_ty (eb.2 _ (List.getElem_mem hi))
      have ef := hf1.els undTypes
      rw [e3] at hQ hp3 ⊢
      have hf2 : fld (Dat.agg [.str s3, f1]) 1 = f1 := rfl
      rw [hf2] at hQ hp3 ⊢
      have hsx : (absCn (.agg [.str s3, f1])).s = s3 := rfl
      rw [hsx] at hQ
      refine ⟨inB hi, wordUp_ok hs3 ⟨_, rfl, Br_iff.2 ⟨fun q => ?_, fun q => ?_⟩⟩⟩
      · rw [show wUp s3 = false from by have q : (!wUp s3) = true := q; simpa using q] at hQ; exact hQ
      · rw [show wUp s3 = true from by have q : (!wUp s3) = false := q; simpa using q] at hQ
        refine containsTypes_ok (p := fun y => !okTy (absTy y)) hf1 (fun y hy Q q => w138 (ef.2 _ hy) (typeOf_ok _ y g (Nat.lt_succ_self _) (ef.2 _ hy) (hp3 _ (List.mem_map.2 ⟨_, hy, rfl⟩)) _ ⟨_, rfl, q⟩)) ⟨_, rfl, ?_⟩
        rw [okTys_any, wrap_nat (by omega)]
        refine Br_iff.2 ⟨fun q => ?_, fun q => ?_⟩
        · rw [show okTys _ = false by simpa using q] at hQ; exact hQ
        · rw [show okTys _ = true by simpa using q] at hQ
          exact ih hQ
  refine wordLow_ok hs2 ⟨_, rfl, Br_iff.2 ⟨fun q => ?_, fun q => Br_iff.2 ⟨fun q' => ?_, fun q' => ?_⟩⟩⟩
  · rw [show wLow s2 = false by simpa using q] at hQ; exact hQ
  · rw [q'] at hQ
    exact qcast hQ (by simp)
  · rw [show wLow s2 = true by simpa using q, q'] at hQ
    simp only [Bool.true_and, Bool.not_false] at hQ
    refine loopUp (len := (elsOf a2).length) (fun i => Qf (.val (.d (.bool ((((elsOf a2).drop i).map strOf).all wVar && ((elsOf b2).map absCn).all okCn)))) g → L70_4 a2 ((elsOf a2).length : Int) (i : Int) (.agg [.str s2, a2, b2, .int .i64 p2]) g Qf) ?_ ?_ 0 (Nat.zero_le _) hQ
    · intro hQ
      refine w70_4 ?_
      rw [Br_ge]
      rw [List.drop_length] at hQ
      exact cons hQ
    · intro i hi ih hQ
      refine w70_4 ?_
      rw [Br_lt hi, getE_nat hi]
      rw [drop_map_cons hi, List.all_cons] at hQ
      have hp3 := hp1 _ (List.mem_map.2 ⟨_, List.getElem_mem hi, rfl⟩)
      obtain ⟨t1, d1, _⟩ := str_ty (ea.2 _ (List.getElem_mem hi))
      rw [d1] at hQ hp3 ⊢
      refine ⟨inB hi, wordVar_ok (s := t1) hp3 ⟨_, rfl, Br_iff.2 ⟨fun q => ?_, fun q => ?_⟩⟩⟩
      · rw [show wVar (strOf (.str t1)) = false from by have q : (!wVar t1) = true := q; show wVar t1 = false; simpa using q] at hQ; exact hQ
      · rw [show wVar (strOf (.str t1)) = true from by have q : (!wVar t1) = false := q; show wVar t1 = true; simpa using q] at hQ
        rw [wrap_nat (by omega)]
        exact ih hQ
def checkP (P : Pg) : Bool := (limF (nwEx P.e) P == 0) && (okEx P.e && P.ds.all okDc)
theorem okDc_any (xs : List Dat) : xs.any (fun y => !okDc (absDc y)) = !(xs.map absDc).all okDc := by induction xs with
  | nil => rfl
  | cons x xs ih => simp [ih]
theorem parseCheck_ok {x : Dat} (hx : HasTy TT 29 x) (hp : Pre (absPg x)) (hQ : Qf (.val (.d (.bool (checkP (absPg x))))) g) : EvF TT 24 [x] g Qf := by
  refine w24 hx (limited_ok hx hp ⟨_, rfl, ?_⟩)
  unfold checkP at hQ
  have hpd := hp.ds
  obtain ⟨d1, k1, s1, r1, n1, a1, b1, p1, rfl, hd1, he1⟩ := prog_ty hx
  have e0 : (absPg (.agg [d1, .int .i64 k1, .str s1, .str r1, .int .i64 n1, a1, b1, .int .i64 p1])).ds = (elsOf d1).map absDc := rfl
  have e1 : (absPg (.agg [d1, .int .i64 k1, .str s1, .str r1, .int .i64 n1, a1, b1, .int .i64 p1])).e = absEx (.agg [.int .i64 k1, .str s1, .str r1, .int .i64 n1, a1, b1, .int .i64 p1]) := rfl
  have ed := hd1.els undDecls
  rw [e0] at hQ hpd
  refine Br_iff.2 ⟨fun q => ?_, fun q => exprOf_ok _ _ g (Nat.lt_succ_self _) he1 _ ⟨_, rfl, Br_iff.2 ⟨fun q' => ?_, fun q' => ?_⟩⟩⟩
  · rw [show (limF _ _ == 0) = false by simpa using q] at hQ; exact hQ
  · rw [e1, show okEx _ = false by simpa using q'] at hQ
    exact qcast hQ (by simp)
  · rw [show (limF _ _ == 0) = true by simpa using q, e1, show okEx _ = true by simpa using q'] at hQ
    simp only [Bool.true_and] at hQ
    refine containsDecls_ok (p := fun y => !okDc (absDc y)) hd1 (fun y hy Q q => w69 (ed.2 _ hy) (declOf_ok (ed.2 _ hy) (by
      have := hpd _ (List.mem_map.2 ⟨_, hy, rfl⟩)
      exact ⟨this.1, fun c hc t ht => (this.2 c hc t ht).2.2⟩) ⟨_, rfl, q⟩)) ⟨_, rfl, qcast hQ ?_⟩
    rw [okDc_any, Bool.not_not]
    rfl
/-! ### The document's test of programs -/
def rDc (d : Dc) : Bool := okDc d && (!badDc d && !g256 (dpCns d.cs))
def rCheckP (P : Pg) : Bool := !gtI 32 P.ds.length && (!gtI 2048 (upto 0 (szEx P.e)) && (P.ds.all rDc && ((limF (!flEx P.e) P == 0) && okEx P.e)))
theorem checkP_eq (P : Pg) : checkP P = rCheckP P := by
  unfold checkP rCheckP
  cases ho : okEx P.e with
  | false => simp
  | true =>
    rw [nw_flEx _ ho]
    by_cases hl : limF (!flEx P.e) P = 0
    · rw [hl]
      unfold limF at hl
      cases h1 : gtI 32 P.ds.length with
      | true => rw [h1] at hl; exact absurd hl (by simp)
      | false =>
        cases h2 : gtI 2048 (upto 0 (szEx P.e)) with
        | true => rw [h1, h2] at hl; exact absurd hl (by simp)
        | false =>
          rw [h1, h2] at hl
          cases hf : flEx P.e with
          | true => rw [hf] at hl; exact absurd hl (by simp)
          | false =>
            rw [hf] at hl
            cases hb : P.ds.any badDc with
            | true => rw [hb] at hl; exact absurd hl (by simp)
            | false =>
              rw [hb, gtI_256, g256_max] at hl
              have hd : g256 (dpDcs P.ds) = false := by
                cases hd : g256 (dpDcs P.ds) with
                | false => rfl
                | true => rw [hd] at hl; exact absurd hl (by simp)
              have key : ∀ l : List Dc, l.any badDc = false → g256 (dpDcs l) = false → l.all okDc = l.all rDc := by
                intro l
                induction l with
                | nil => intro _ _; rfl
                | cons d l ih =>
                  intro hb hd
                  rw [List.any_cons, Bool.or_eq_false_iff] at hb
                  rw [dpDcs, g256_max, Bool.or_eq_false_iff] at hd
                  rw [List.all_cons, List.all_cons, ih hb.2 hd.2, rDc, hb.1, hd.1]
                  simp
              rw [key _ hb hd]
              simp
    · rw [show (limF (!flEx P.e) P == 0) = false by simpa using hl]
      simp
end
end Go.Proofs.YtgmapdcdmomioaaGreatDoor.Pa
