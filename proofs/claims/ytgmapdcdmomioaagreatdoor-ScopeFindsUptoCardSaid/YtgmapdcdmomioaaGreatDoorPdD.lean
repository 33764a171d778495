/- The document's copies; what is too large. -/
import Derived.Test.YtgmapdcdmomioaaGreatDoorPdC
import Derived.Test.YtgmapdcdmomioaaGreatDoorPwC
set_option linter.all false
set_option linter.all false
set_option autoImplicit false
set_option maxRecDepth 100000
namespace Go.Proofs.YtgmapdcdmomioaaGreatDoor.Pa
open Go Go.Proofs.YtgmapdcdmomioaaGreatDoor.Am
theorem retOf_ret (m : Nat) (l : List Dat) : RetV (retOf m l) (slOf m l) := by cases l <;> rfl
theorem byType : TT.bytes 94 = some 56 := by kernel_rfl
theorem byPat : TT.bytes 127 = some 64 := by kernel_rfl
theorem byExpr : TT.bytes 27 = some 104 := by kernel_rfl
theorem byCon : TT.bytes 91 = some 40 := by kernel_rfl
theorem byDecl : TT.bytes 76 = some 72 := by kernel_rfl
theorem byStr : TT.bytes 9 = some 16 := by kernel_rfl
theorem szType : TT.size 94 = some 4 := by kernel_rfl
theorem szPat : TT.size 127 = some 5 := by kernel_rfl
theorem szExpr : TT.size 27 = some 7 := by kernel_rfl
theorem szCon : TT.size 91 = some 2 := by kernel_rfl
theorem szDecl : TT.size 76 = some 4 := by kernel_rfl
theorem szStr : TT.size 9 = some 1 := by kernel_rfl
theorem take_snoc {α β : Type} {f : α → β} {xs : List α} {ys : List α} {i : Nat} {y : α} (hi : i < xs.length) (h : ys.map f = (xs.take i).map f) (hy : f y = f xs[i]) : (ys ++ [y]).map f = (xs.take (i + 1)).map f := by
  rw [List.map_append, h, List.take_succ_eq_append_getElem hi, List.map_append, List.map_singleton, List.map_singleton, hy]
theorem copyTypes_ok : ∀ (k : Nat) (x : Dat) (g : Glob), SizeOf.sizeOf x < k → HasTy TT 89 x → ∀ (Qf : Out → Glob → Prop), (∀ l : List Dat, (∀ y ∈ l, HasTy TT 94 y) → l.length = (elsOf x).length → l.map absTy = (elsOf x).map absTy → Qf (.val (retOf 4 l)) g) → EvF TT 87 [x] g Qf
  | 0, x, g, hk, _ => by omega
  | k + 1, x, g, hk, hx => by
    intro Qf hQ
    have ex := hx.els undTypes
    have exl := ex.1.1
    refine w87 hx ?_
    refine loopUp (len := (elsOf x).length) (fun i => ∀ l : List Dat, l.length = i → (∀ y ∈ l, HasTy TT 94 y) → l.map absTy = ((elsOf x).take i).map absTy → L87_3 x l (i : Int) g Qf) ?_ ?_ 0 (Nat.zero_le _) [] rfl (fun y h => by cases h) rfl
    · intro l h1 h2 h3
      refine w87_3 ?_
      rw [Br_ge]
      rw [List.take_length] at h3
      exact hQ l h2 h1 h3
    · intro i hi ih l h1 h2 h3
      refine w87_3 ?_
      rw [Br_lt hi, getE_nat hi]
      have hsz := sizeOf_el hi
      obtain ⟨k1, s1, n1, a1, e1, hs1, t1⟩ := type_ty (ex.2 _ (List.getElem_mem hi))
      have hab : absTy (elsOf x)[i] = .mk k1 s1 n1 (absTyA a1) := by rw [e1]; rfl
      rw [e1] at hsz ⊢
      have hc := sizeOf_cell (cs := [.int .i64 k1, .str s1, .int .i64 n1, a1]) (c := a1) (by simp)
      refine ⟨inB hi, copyTypes_ok k a1 g (by omega) t1 _ fun l' hl' hn' ha' => ?_⟩
      have ta : HasTy TT 89 (slOf 4 l') := slOf_ty undTypes szType (by rw [hn']; exact (t1.els undTypes).1) hl'
      refine ⟨slOf 4 l', ta, retOf_ret _ _, (ex.1.le (by simp; omega)).fits byType, ?_⟩
      rw [wrap_nat (by omega)]
      refine ih _ (by simp [h1]) (fun y hy => ?_) (take_snoc hi h3 ?_)
      · rcases List.mem_append.1 hy with hy | hy
        · exact h2 y hy
        · simp only [List.mem_singleton] at hy; subst hy; exact ty_type hs1 ta
      · rw [hab]
        show Ty.mk k1 s1 n1 (absTyA (slOf 4 l')) = _
        rw [absTyA_map, slOf_els, ha', ← absTyA_map]
theorem copyPats_ok : ∀ (k : Nat) (x : Dat) (g : Glob), SizeOf.sizeOf x < k → HasTy TT 25 x → ∀ (Qf : Out → Glob → Prop), (∀ l : List Dat, (∀ y ∈ l, HasTy TT 127 y) → l.length = (elsOf x).length → l.map absPt = (elsOf x).map absPt → Qf (.val (retOf 5 l)) g) → EvF TT 93 [x] g Qf
  | 0, x, g, hk, _ => by omega
  | k + 1, x, g, hk, hx => by
    intro Qf hQ
    have ex := hx.els undPats
    have exl := ex.1.1
    refine w93 hx ?_
    refine loopUp (len := (elsOf x).length) (fun i => ∀ l : List Dat, l.length = i → (∀ y ∈ l, HasTy TT 127 y) → l.map absPt = ((elsOf x).take i).map absPt → L93_3 x l (i : Int) g Qf) ?_ ?_ 0 (Nat.zero_le _) [] rfl (fun y h => by cases h) rfl
    · intro l h1 h2 h3
      refine w93_3 ?_
      rw [Br_ge]
      rw [List.take_length] at h3
      exact hQ l h2 h1 h3
    · intro i hi ih l h1 h2 h3
      refine w93_3 ?_
      rw [Br_lt hi, getE_nat hi]
      have hsz := sizeOf_el hi
      obtain ⟨k1, s1, n1, a1, p1, e1, hs1, t1⟩ := pat_ty (ex.2 _ (List.getElem_mem hi))
      have hab : absPt (elsOf x)[i] = .mk k1 s1 n1 (absPtA a1) p1 := by rw [e1]; rfl
      rw [e1] at hsz ⊢
      have hc := sizeOf_cell (cs := [.int .i64 k1, .str s1, .int .i64 n1, a1, .int .i64 p1]) (c := a1) (by simp)
      refine ⟨inB hi, copyPats_ok k a1 g (by omega) t1 _ fun l' hl' hn' ha' => ?_⟩
      have ta : HasTy TT 25 (slOf 5 l') := slOf_ty undPats szPat (by rw [hn']; exact (t1.els undPats).1) hl'
      refine ⟨slOf 5 l', ta, retOf_ret _ _, (ex.1.le (by simp; omega)).fits byPat, ?_⟩
      rw [wrap_nat (by omega)]
      refine ih _ (by simp [h1]) (fun y hy => ?_) (take_snoc hi h3 ?_)
      · rcases List.mem_append.1 hy with hy | hy
        · exact h2 y hy
        · simp only [List.mem_singleton] at hy; subst hy; exact ty_pat hs1 ta
      · rw [hab]
        show Pt.mk k1 s1 n1 (absPtA (slOf 5 l')) p1 = _
        rw [absPtA_map, slOf_els, ha', ← absPtA_map]
theorem copyExprs_ok : ∀ (k : Nat) (x : Dat) (g : Glob), SizeOf.sizeOf x < k → HasTy TT 24 x → ∀ (Qf : Out → Glob → Prop), (∀ l : List Dat, (∀ y ∈ l, HasTy TT 27 y) → l.length = (elsOf x).length → l.map absEx = (elsOf x).map absEx → Qf (.val (retOf 7 l)) g) → EvF TT 41 [x] g Qf
  | 0, x, g, hk, _ => by omega
  | k + 1, x, g, hk, hx => by
    intro Qf hQ
    have ex := hx.els undExprs
    have exl := ex.1.1
    refine w41 hx ?_
    refine loopUp (len := (elsOf x).length) (fun i => ∀ l : List Dat, l.length = i → (∀ y ∈ l, HasTy TT 27 y) → l.map absEx = ((elsOf x).take i).map absEx → L41_3 x l (i : Int) g Qf) ?_ ?_ 0 (Nat.zero_le _) [] rfl (fun y h => by cases h) rfl
    · intro l h1 h2 h3
      refine w41_3 ?_
      rw [Br_ge]
      rw [List.take_length] at h3
      exact hQ l h2 h1 h3
    · intro i hi ih l h1 h2 h3
      refine w41_3 ?_
      rw [Br_lt hi, getE_nat hi]
      have hsz := sizeOf_el hi
      obtain ⟨k1, s1, r1, n1, a1, b1, p1, e1, hs1, hr1, t1, u1⟩ := expr_ty (ex.2 _ (List.getElem_mem hi))
      have hab : absEx (elsOf x)[i] = .mk k1 s1 r1 n1 (absExA a1) (absPtA b1) p1 := by rw [e1]; rfl
      rw [e1] at hsz ⊢
      have hc := sizeOf_cell (cs := [.int .i64 k1, .str s1, .str r1, .int .i64 n1, a1, b1, .int .i64 p1]) (c := a1) (by simp)
      refine ⟨inB hi, copyExprs_ok k a1 g (by omega) t1 _ fun l' hl' hn' ha' => ?_⟩
      have ta : HasTy TT 24 (slOf 7 l') := slOf_ty undExprs szExpr (by rw [hn']; exact (t1.els undExprs).1) hl'
      refine ⟨slOf 7 l', ta, retOf_ret _ _, copyPats_ok _ b1 g (Nat.lt_succ_self _) u1 _ fun m hm hmn hma => ?_⟩
      have tb : HasTy TT 25 (slOf 5 m) := slOf_ty undPats szPat (by rw [hmn]; exact (u1.els undPats).1) hm
      refine ⟨slOf 5 m, tb, retOf_ret _ _, (ex.1.le (by simp; omega)).fits byExpr, ?_⟩
      rw [wrap_nat (by omega)]
      refine ih _ (by simp [h1]) (fun y hy => ?_) (take_snoc hi h3 ?_)
      · rcases List.mem_append.1 hy with hy | hy
        · exact h2 y hy
        · simp only [List.mem_singleton] at hy; subst hy; exact ty_expr hs1 hr1 ta tb
      · rw [hab]
        show Ex'.mk k1 s1 r1 n1 (absExA (slOf 7 l')) (absPtA (slOf 5 m)) p1 = _
        rw [absExA_map, slOf_els, ha', ← absExA_map, absPtA_map, slOf_els, hma, ← absPtA_map]
theorem copyDecls_ok (x : Dat) (g : Glob) (hx : HasTy TT 23 x) (Qf : Out → Glob → Prop) (hQ : ∀ l : List Dat, (∀ y ∈ l, HasTy TT 76 y) → l.length = (elsOf x).length → l.map absDc = (elsOf x).map absDc → Qf (.val (retOf 4 l)) g) : EvF TT 36 [x] g Qf := by
  have ex := hx.els undDecls
  have exl := ex.1.1
  refine w36 hx ?_
  refine loopUp (len := (elsOf x).length) (fun i => ∀ l : List Dat, l.length = i → (∀ y ∈ l, HasTy TT 76 y) → l.map absDc = ((elsOf x).take i).map absDc → L36_3 x l (i : Int) g Qf) ?_ ?_ 0 (Nat.zero_le _) [] rfl (fun y h => by cases h) rfl
  · intro l h1 h2 h3
    refine w36_3 ?_
    rw [Br_ge]
    rw [List.take_length] at h3
    exact hQ l h2 h1 h3
  · intro i hi ih l h1 h2 h3
    refine w36_3 ?_
    rw [Br_lt hi, getE_nat hi]
    obtain ⟨s1, a1, b1, p1, e1, hs1, ta1, tb1⟩ := decl_ty (ex.2 _ (List.getElem_mem hi))
    have hab : absDc (elsOf x)[i] = ⟨s1, (elsOf a1).map strOf, (elsOf b1).map absCn, p1⟩ := by rw [e1]; rfl
    rw [e1]
    have ea := ta1.els undStrs
    have eb := tb1.els undCons
    have ebl := eb.1.1
    have tA : HasTy TT 61 (.sl 1 ([] ++ elsOf a1)) := .sl _ _ _ _ undStrs szStr (by simpa using ea.1) (by simpa using ea.2)
    refine ⟨inB hi, (ea.1.le (by simp [fld, nth])).fits byStr, ?_⟩
    refine loopUp (len := (elsOf b1).length) (fun j => ∀ m : List Dat, m.length = j → (∀ y ∈ m, HasTy TT 91 y) → m.map absCn = ((elsOf b1).take j).map absCn →
      L36_9 x l (i : Int) m (j : Int) (.agg [.str s1, .sl 1 ([] ++ elsOf a1), b1, .int .i64 p1]) g Qf) ?_ ?_ 0 (Nat.zero_le _) [] rfl (fun y h => by cases h) rfl
    · intro m q1 q2 q3
      refine w36_9 ?_
      rw [show (fld (Dat.agg [.str s1, .sl 1 ([] ++ elsOf a1), b1, .int .i64 p1]) 2) = b1 from rfl, Br_ge]
      refine ⟨(ex.1.le (by simp; omega)).fits byDecl, ?_⟩
      rw [wrap_nat (by omega)]
      rw [List.take_length] at q3
      have tB : HasTy TT 74 (slOf 2 m) := slOf_ty undCons szCon (by rw [q1]; exact eb.1) q2
      refine ih _ (by simp [h1]) (fun y hy => ?_) (take_snoc hi h3 ?_)
      · rcases List.mem_append.1 hy with hy | hy
        · exact h2 y hy
        · simp only [List.mem_singleton] at hy; subst hy; exact ty_decl hs1 tA tB
      · rw [hab]
        show (⟨s1, (elsOf (.sl 1 ([] ++ elsOf a1))).map strOf, (elsOf (slOf 2 m)).map absCn, p1⟩ : Dc) = _
        rw [slOf_els, q3]
        rfl
    · intro j hj ihj m q1 q2 q3
      refine w36_9 ?_
      rw [show (fld (Dat.agg [.str s1, .sl 1 ([] ++ elsOf a1), b1, .int .i64 p1]) 2) = b1 from rfl, Br_lt hj, getE_nat hj]
      obtain ⟨t1, f1, d1, ht1, tf1⟩ := con_ty (eb.2 _ (List.getElem_mem hj))
      have hac : absCn (elsOf b1)[j] = ⟨t1, absTyA f1⟩ := by rw [d1]; rfl
      rw [d1]
      refine ⟨inB hj, inB hj, copyTypes_ok _ f1 g (Nat.lt_succ_self _) tf1 _ fun l' hl' hn' ha' => ?_⟩
      have tF : HasTy TT 89 (slOf 4 l') := slOf_ty undTypes szType (by rw [hn']; exact (tf1.els undTypes).1) hl'
      refine ⟨slOf 4 l', tF, retOf_ret _ _, (eb.1.le (by simp; omega)).fits byCon, ?_⟩
      rw [wrap_nat (by omega)]
      refine ihj _ (by simp [q1]) (fun y hy => ?_) (take_snoc hj q3 ?_)
      · rcases List.mem_append.1 hy with hy | hy
        · exact q2 y hy
        · simp only [List.mem_singleton] at hy; subst hy; exact ty_con ht1 tF
      · rw [hac]
        show (⟨t1, absTyA (slOf 4 l')⟩ : Cn) = _
        rw [absTyA_map, slOf_els, ha', ← absTyA_map]
theorem copy_ok (x : Dat) (g : Glob) (hx : HasTy TT 29 x) (Qf : Out → Glob → Prop) (hQ : ∀ r, HasTy TT 29 r → absPg r = absPg x → Qf (.val (.d r)) g) : EvF TT 23 [x] g Qf := by
  refine w23 hx ?_
  obtain ⟨d1, k1, s1, r1, n1, a1, b1, p1, rfl, hd1, he1⟩ := prog_ty hx
  refine copyDecls_ok d1 g hd1 _ fun l hl hn ha => ?_
  have tD : HasTy TT 23 (slOf 4 l) := slOf_ty undDecls szDecl (by rw [hn]; exact (hd1.els undDecls).1) hl
  refine ⟨slOf 4 l, tD, retOf_ret _ _, copyExprs_ok _ _ g (Nat.lt_succ_self _) (one_expr he1) _ fun m hm hmn hma => ?_⟩
  obtain ⟨y, rfl⟩ : ∃ y, m = [y] := by
    match m, hmn with
    | [y], _ => exact ⟨y, rfl⟩
  have hy := hm y (by simp)
  have hya : absEx y = absEx (.agg [.int .i64 k1, .str s1, .str r1, .int .i64 n1, a1, b1, .int .i64 p1]) := by
    have := hma
    simpa [elsOf, sub] using this
  refine ⟨.sl 7 [y], one_expr hy, rfl, ⟨Int.le_refl _, by simp [elsOf]⟩, ?_⟩
  obtain ⟨k2, s2, r2, n2, a2, b2, p2, rfl, hs2, hr2, t2, u2⟩ := expr_ty hy
  refine hQ _ (ty_prog tD (ty_expr hs2 hr2 t2 u2)) ?_
  show (⟨(elsOf (slOf 4 l)).map absDc, absEx (.agg [.int .i64 k2, .str s2, .str r2, .int .i64 n2, a2, b2, .int .i64 p2])⟩ : Pg) = ⟨(elsOf d1).map absDc, absEx (.agg [.int .i64 k1, .str s1, .str r1, .int .i64 n1, a1, b1, .int .i64 p1])⟩
  rw [slOf_els, ha, hya]
/-! What is too large: some answer. -/
theorem weighType_ok : ∀ (k : Nat) (x : Dat) (g : Glob) (n1 n2 : Int), SizeOf.sizeOf x < k → HasTy TT 94 x → ∀ (Qf : Out → Glob → Prop), (∀ n : Int, Qf (.val (.d (.int .i64 n))) g) → EvF TT 125 [x, .int .i64 n1, .int .i64 n2] g Qf
  | 0, x, g, n1, n2, hk, _ => by omega
  | k + 1, x, g, n1, n2, hk, hx => by
    intro Qf hQ
    refine w125 hx ⟨neZ (by decide), Br_iff.2 ⟨fun _ => hQ _, fun _ => Br_iff.2 ⟨fun _ => hQ _, fun _ => ?_⟩⟩⟩
    obtain ⟨k1, s1, v1, a1, rfl, hs1, t1⟩ := type_ty hx
    have ex := t1.els undTypes
    have exl := ex.1.1
    have hc := sizeOf_cell (cs := [.int .i64 k1, .str s1, .int .i64 v1, a1]) (c := a1) (by simp)
    refine loopUp (len := (elsOf a1).length) (fun i => ∀ n : Int, L125_5 n1 n (i : Int) (.agg [.int .i64 k1, .str s1, .int .i64 v1, a1]) g Qf) ?_ ?_ 0 (Nat.zero_le _) _
    · intro n
      refine w125_5 ?_
      rw [show (fld (Dat.agg [.int .i64 k1, .str s1, .int .i64 v1, a1]) 3) = a1 from rfl, Br_ge]
      exact hQ _
    · intro i hi ih n
      refine w125_5 ?_
      rw [show (fld (Dat.agg [.int .i64 k1, .str s1, .int .i64 v1, a1]) 3) = a1 from rfl, Br_lt hi, getE_nat hi]
      refine Br_iff.2 ⟨fun _ => ⟨inB hi, ?_⟩, fun _ => hQ _⟩
      have hsz := sizeOf_el hi
      refine weighType_ok k _ g _ _ (by omega) (ex.2 _ (List.getElem_mem hi)) _ fun n' => ⟨_, rfl, ?_⟩
      rw [wrap_nat (by omega)]
      exact ih n'
theorem weighPat_ok : ∀ (k : Nat) (x : Dat) (g : Glob) (n1 n2 : Int), SizeOf.sizeOf x < k → HasTy TT 127 x → ∀ (Qf : Out → Glob → Prop), (∀ n : Int, Qf (.val (.d (.int .i64 n))) g) → EvF TT 159 [x, .int .i64 n1, .int .i64 n2] g Qf
  | 0, x, g, n1, n2, hk, _ => by omega
  | k + 1, x, g, n1, n2, hk, hx => by
    intro Qf hQ
    refine w159 hx ⟨neZ (by decide), Br_iff.2 ⟨fun _ => hQ _, fun _ => Br_iff.2 ⟨fun _ => hQ _, fun _ => ?_⟩⟩⟩
    obtain ⟨k1, s1, v1, a1, p1, rfl, hs1, t1⟩ := pat_ty hx
    have ex := t1.els undPats
    have exl := ex.1.1
    have hc := sizeOf_cell (cs := [.int .i64 k1, .str s1, .int .i64 v1, a1, .int .i64 p1]) (c := a1) (by simp)
    refine loopUp (len := (elsOf a1).length) (fun i => ∀ n : Int, L159_5 n1 n (i : Int) (.agg [.int .i64 k1, .str s1, .int .i64 v1, a1, .int .i64 p1]) g Qf) ?_ ?_ 0 (Nat.zero_le _) _
    · intro n
      refine w159_5 ?_
      rw [show (fld (Dat.agg [.int .i64 k1, .str s1, .int .i64 v1, a1, .int .i64 p1]) 3) = a1 from rfl, Br_ge]
      exact hQ _
    · intro i hi ih n
      refine w159_5 ?_
      rw [show (fld (Dat.agg [.int .i64 k1, .str s1, .int .i64 v1, a1, .int .i64 p1]) 3) = a1 from rfl, Br_lt hi, getE_nat hi]
      refine Br_iff.2 ⟨fun _ => ⟨inB hi, ?_⟩, fun _ => hQ _⟩
      have hsz := sizeOf_el hi
      refine weighPat_ok k _ g _ _ (by omega) (ex.2 _ (List.getElem_mem hi)) _ fun n' => ⟨_, rfl, ?_⟩
      rw [wrap_nat (by omega)]
      exact ih n'
theorem weighExpr_ok : ∀ (k : Nat) (x : Dat) (g : Glob) (n1 n2 : Int), SizeOf.sizeOf x < k → HasTy TT 27 x → ∀ (Qf : Out → Glob → Prop), (∀ n : Int, Qf (.val (.d (.int .i64 n))) g) → EvF TT 88 [x, .int .i64 n1, .int .i64 n2] g Qf
  | 0, x, g, n1, n2, hk, _ => by omega
  | k + 1, x, g, n1, n2, hk, hx => by
    intro Qf hQ
    refine w88 hx ⟨neZ (by decide), neZ (by decide), Br_iff.2 ⟨fun _ => hQ _, fun _ => Br_iff.2 ⟨fun _ => hQ _, fun _ => ?_⟩⟩⟩
    obtain ⟨k1, s1, r1, v1, a1, b1, p1, rfl, hs1, hr1, t1, u1⟩ := expr_ty hx
    have ex := t1.els undExprs
    have exl := ex.1.1
    have eu := u1.els undPats
    have eul := eu.1.1
    have hc := sizeOf_cell (cs := [.int .i64 k1, .str s1, .str r1, .int .i64 v1, a1, b1, .int .i64 p1]) (c := a1) (by simp)
    have args : ∀ n : Int, L88_9 n1 n 0 (.agg [.int .i64 k1, .str s1, .str r1, .int .i64 v1, a1, b1, .int .i64 p1]) g Qf := by
      refine loopUp (len := (elsOf a1).length) (fun i => ∀ n : Int, L88_9 n1 n (i : Int) (.agg [.int .i64 k1, .str s1, .str r1, .int .i64 v1, a1, b1, .int .i64 p1]) g Qf) ?_ ?_ 0 (Nat.zero_le _)
      · intro n
        refine w88_9 ?_
        rw [show (fld (Dat.agg [.int .i64 k1, .str s1, .str r1, .int .i64 v1, a1, b1, .int .i64 p1]) 4) = a1 from rfl, Br_ge]
        exact hQ _
      · intro i hi ih n
        refine w88_9 ?_
        rw [show (fld (Dat.agg [.int .i64 k1, .str s1, .str r1, .int .i64 v1, a1, b1, .int .i64 p1]) 4) = a1 from rfl, Br_lt hi, getE_nat hi]
        refine Br_iff.2 ⟨fun _ => ⟨inB hi, ?_⟩, fun _ => hQ _⟩
        have hsz := sizeOf_el hi
        refine weighExpr_ok k _ g _ _ (by omega) (ex.2 _ (List.getElem_mem hi)) _ fun n' => ⟨_, rfl, ?_⟩
        rw [wrap_nat (by omega)]
        exact ih n'
    refine loopUp (len := (elsOf b1).length) (fun i => ∀ n : Int, L88_5 n1 n (i : Int) (.agg [.int .i64 k1, .str s1, .str r1, .int .i64 v1, a1, b1, .int .i64 p1]) g Qf) ?_ ?_ 0 (Nat.zero_le _) _
    · intro n
      refine w88_5 ?_
      rw [show (fld (Dat.agg [.int .i64 k1, .str s1, .str r1, .int .i64 v1, a1, b1, .int .i64 p1]) 5) = b1 from rfl, Br_ge]
      exact args n
    · intro i hi ih n
      refine w88_5 ?_
      rw [show (fld (Dat.agg [.int .i64 k1, .str s1, .str r1, .int .i64 v1, a1, b1, .int .i64 p1]) 5) = b1 from rfl, Br_lt hi, getE_nat hi]
      refine Br_iff.2 ⟨fun _ => ⟨inB hi, ?_⟩, fun _ => args n⟩
      refine weighPat_ok _ _ g _ _ (Nat.lt_succ_self _) (eu.2 _ (List.getElem_mem hi)) _ fun n' => ⟨_, rfl, ?_⟩
      rw [wrap_nat (by omega)]
      exact ih n'
theorem largeExpr_ok (x : Dat) (g : Glob) (hx : HasTy TT 27 x) (Qf : Out → Glob → Prop) (hQ : ∀ b, Qf (.val (.d (.bool b))) g) : EvF TT 37 [x] g Qf :=
  w37 hx (weighExpr_ok _ x g _ _ (Nat.lt_succ_self _) hx _ fun n => ⟨_, rfl, hQ _⟩)
theorem largeDecls_ok (x : Dat) (g : Glob) (hx : HasTy TT 23 x) (Qf : Out → Glob → Prop) (hQ : ∀ b, Qf (.val (.d (.bool b))) g) : EvF TT 58 [x] g Qf := by
  have ex := hx.els undDecls
  have exl := ex.1.1
  refine w58 hx (Br_iff.2 ⟨fun _ => hQ _, fun _ => ?_⟩)
  refine loopUp (len := (elsOf x).length) (fun i => ∀ n : Int, L58_5 x n (i : Int) g Qf) ?_ ?_ 0 (Nat.zero_le _) 0
  · intro n
    refine w58_5 ?_
    rw [Br_ge]
    exact hQ _
  · intro i hi ih n
    refine w58_5 ?_
    rw [Br_lt hi]
    refine ⟨inB hi, Br_iff.2 ⟨fun _ => hQ _, fun _ => ⟨inB hi, Br_iff.2 ⟨fun _ => hQ _, fun _ => ?_⟩⟩⟩⟩
    obtain ⟨s1, a1, b1, p1, e1, hs1, ta1, tb1⟩ := decl_ty (ex.2 _ (List.getElem_mem hi))
    have hf : fld (getE (elsOf x) (i : Int)) 2 = b1 := by rw [getE_nat hi, e1]; rfl
    have eb := tb1.els undCons
    have ebl := eb.1.1
    refine loopUp (len := (elsOf b1).length) (fun j => ∀ n : Int, L58_10 x n (i : Int) (j : Int) g Qf) ?_ ?_ 0 (Nat.zero_le _) n
    · intro n
      refine w58_10 ⟨inB hi, ?_⟩
      rw [hf, Br_ge, wrap_nat (by omega)]
      exact ih n
    · intro j hj ihj n
      refine w58_10 ⟨inB hi, ?_⟩
      rw [hf, Br_lt hj]
      refine ⟨inB hi, inB hj, Br_iff.2 ⟨fun _ => hQ _, fun _ => ?_⟩⟩
      obtain ⟨t1, f1, d1, ht1, tf1⟩ := con_ty (eb.2 _ (List.getElem_mem hj))
      have hf2 : fld (getE (elsOf b1) (j : Int)) 1 = f1 := by rw [getE_nat hj, d1]; rfl
      have ef := tf1.els undTypes
      have efl := ef.1.1
      have next : ∀ n : Int, Br (decide (n < 0)) (Qf (Out.val (Val.d (Dat.bool true))) g) (L58_10 x n (i : Int) (IntKind.i64.wrap ((j : Int) + 1)) g Qf) := fun n => by
        refine Br_iff.2 ⟨fun _ => hQ _, fun _ => ?_⟩
        rw [wrap_nat (by omega)]
        exact ihj n
      refine loopUp (len := (elsOf f1).length) (fun q => ∀ n : Int, L58_15 x n (i : Int) (j : Int) (q : Int) g Qf) ?_ ?_ 0 (Nat.zero_le _) n
      · intro n
        refine w58_15 ⟨inB hi, ?_⟩
        rw [hf, hf2, Br_ge]
        exact ⟨inB hj, next n⟩
      · intro q hq ihq n
        refine w58_15 ⟨inB hi, ?_⟩
        rw [hf, hf2, Br_lt hq]
        refine ⟨inB hj, Br_iff.2 ⟨fun _ => ⟨inB hi, inB hj, inB hq, ?_⟩, fun _ => next n⟩⟩
        rw [getE_nat hq]
        refine weighType_ok _ _ g _ _ (Nat.lt_succ_self _) (ef.2 _ (List.getElem_mem hq)) _ fun n' => ⟨_, rfl, ?_⟩
        rw [wrap_nat (by omega)]
        exact ihq n'
theorem large_ok (x : Dat) (g : Glob) (hx : HasTy TT 29 x) (Qf : Out → Glob → Prop) (hQ : ∀ b, Qf (.val (.d (.bool b))) g) : EvF TT 21 [x] g Qf := by
  refine w21 hx ?_
  obtain ⟨d1, k1, s1, r1, n1, a1, b1, p1, rfl, hd1, he1⟩ := prog_ty hx
  exact largeDecls_ok d1 g hd1 _ fun b => ⟨_, rfl, Br_iff.2 ⟨fun _ => hQ _, fun _ => largeExpr_ok _ g he1 _ fun b => ⟨_, rfl, hQ _⟩⟩⟩
end Go.Proofs.YtgmapdcdmomioaaGreatDoor.Pa
