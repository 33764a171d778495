/- The document's Check told; the law ParseChecks answers true. -/
import Derived.Test.YtgmapdcdmomioaaGreatDoorPfM
import Derived.Test.YtgmapdcdmomioaaGreatDoorPwI
import Derived.Test.YtgmapdcdmomioaaGreatDoorPeB
set_option linter.all false
set_option linter.all false
set_option autoImplicit false
set_option maxRecDepth 100000
namespace Go.Proofs.YtgmapdcdmomioaaGreatDoor.Pa
open Go Go.Proofs.YtgmapdcdmomioaaGreatDoor.Am
def fdOk (t : Ty) : Bool := !g256 (dpTy t) && okTy t
def cnOk (c : Cn) : Bool := wUp c.s && (!badCn c && c.fs.all fdOk)
theorem fdOk_all (l : List Ty) : l.all fdOk = (okTys l && !g256 (dpTys l)) := by induction l with
  | nil => rfl
  | cons t l ih =>
    rw [List.all_cons, ih, okTys, dpTys, g256_max, fdOk]
    cases okTy t <;> cases g256 (dpTy t) <;> cases okTys l <;> cases g256 (dpTys l) <;> rfl
theorem cnOk_all (l : List Cn) : l.all cnOk = (l.all okCn && (!l.any badCn && !g256 (dpCns l))) := by induction l with
  | nil => rfl
  | cons c l ih =>
    rw [List.all_cons, ih, List.all_cons, List.any_cons, dpCns, g256_max, cnOk, okCn, fdOk_all]
    cases wUp c.s <;> cases badCn c <;> cases okTys c.fs <;> cases g256 (dpTys c.fs) <;> cases l.all okCn <;> cases l.any badCn <;> cases g256 (dpCns l) <;> rfl
theorem rDc_eq (d : Dc) : rDc d = (wLow d.s && (!((d.cs.length : Int) == 0) && (!gtI 32 d.cs.length && (!gtI 4 d.ps.length && (d.ps.all wVar && d.cs.all cnOk))))) := by
  rw [cnOk_all, rDc, okDc, badDc]
  cases wLow d.s <;> cases ((d.cs.length : Int) == 0) <;> cases gtI 32 d.cs.length <;> cases gtI 4 d.ps.length <;> cases d.ps.all wVar <;> cases d.cs.all okCn <;> cases d.cs.any badCn <;> cases g256 (dpCns d.cs) <;> rfl
section
variable {g : Glob} {Qf : Out → Glob → Prop}
theorem nb {b : Bool} (h : (!b) = true) : b = false := by simpa using h
theorem nb' {b : Bool} (h : (!b) = false) : b = true := by simpa using h
theorem rcFields {y4 y1 c1 f1 : Dat} {R : Bool} {q n3 : Nat} (hq : q < (elsOf (fld y4 2)).length) (hc : (elsOf (fld y4 2))[q] = c1) (hf1 : fld c1 1 = f1) (hf : HasTy TT 89 f1) (hs : ∀ t ∈ (elsOf f1).map absTy, ndTy t ≤ 20000 ∧ dpTy t ≤ 601)
    (hF : Qf (.val (.d (.bool false))) g) (h : ((elsOf f1).map absTy).all fdOk = true → L25_15 (n3 : Int) (IntKind.i64.wrap ((q : Int) + 1)) y4 y1 g Qf) :
    L25_20 (n3 : Int) (q : Int) 0 y4 y1 g Qf := by
  have ef := hf.els undTypes
  have efl := ef.1.1
  refine loopUp (len := (elsOf f1).length) (fun i => ((((elsOf f1).drop i).map absTy).all fdOk = true → L25_15 (n3 : Int) (IntKind.i64.wrap ((q : Int) + 1)) y4 y1 g Qf) → L25_20 (n3 : Int) (q : Int) (i : Int) y4 y1 g Qf) ?_ ?_ 0 (Nat.zero_le _) h
  · intro h
    refine w25_20 ⟨inB hq, ?_⟩
    rw [getE_nat hq, hc, hf1, Br_ge]
    exact h (by rw [List.drop_length]; rfl)
  · intro i hi ih h
    refine w25_20 ⟨inB hq, ?_⟩
    rw [getE_nat hq, hc, hf1, Br_lt hi, getE_nat hi]
    rw [drop_map_cons hi, List.all_cons, fdOk] at h
    obtain ⟨n1, n2⟩ := hs _ (List.mem_map.2 ⟨_, List.getElem_mem hi, rfl⟩)
    refine ⟨inB hq, inB hi, deepType_ok _ _ g 256 (Nat.lt_succ_self _) (ef.2 _ (List.getElem_mem hi)) (by omega) _ ⟨_, rfl, Br_iff.2 ⟨fun _ => hF, fun p => ⟨inB hq, inB hi, rType_ok _ _ g 1048576 (Nat.lt_succ_self _) (ef.2 _ (List.getElem_mem hi)) (by omega) (by omega) _ ⟨_, rfl, Br_iff.2 ⟨fun _ => hF, fun p' => ?_⟩⟩⟩⟩⟩⟩
    have ho : okTy (absTy (elsOf f1)[i]) = true := by
      cases ho : okTy (absTy (elsOf f1)[i]) with
      | true => rfl
      | false => rw [ho] at p'; exact absurd p' (by simp)
    rw [show g256 (dpTy (absTy (elsOf f1)[i])) = false from p, ho] at h
    rw [wrap_nat (by omega)]
    exact ih (by simpa using h)
theorem rCheck_ok {x : Dat} (hx : HasTy TT 29 x) (hp : Pre (absPg x)) (hQ : Qf (.val (.d (.bool (rCheckP (absPg x))))) g) : EvF TT 25 [x] g Qf := by
  refine w25 hx ?_
  unfold rCheckP at hQ
  have hpd := hp.ds
  have hlim : ∀ Q : Out → Glob → Prop, Q (.val (.d (.int .i64 (limF (!flEx (absPg x).e) (absPg x))))) g → EvF TT 52 [x] g Q := fun Q h => limits_ok hx h
  have hsz : ∀ Q : Out → Glob → Prop, Q (.val (.d (.int .i64 (upto 0 (szEx (absPg x).e))))) g → EvF TT 27 [x] g Q := fun Q h => refSize_ok x g hx Q h
  obtain ⟨d1, k1, s1, r1, n1, a1, b1, p1, rfl, hd1, he1⟩ := prog_ty hx
  have e0 : (absPg (.agg [d1, .int .i64 k1, .str s1, .str r1, .int .i64 n1, a1, b1, .int .i64 p1])).ds = (elsOf d1).map absDc := rfl
  have e1 : (absPg (.agg [d1, .int .i64 k1, .str s1, .str r1, .int .i64 n1, a1, b1, .int .i64 p1])).e = absEx (.agg [.int .i64 k1, .str s1, .str r1, .int .i64 n1, a1, b1, .int .i64 p1]) := rfl
  have hfin : ∀ Q : Out → Glob → Prop, Q (.val (.d (.bool (okEx (absPg (.agg [d1, .int .i64 k1, .str s1, .str r1, .int .i64 n1, a1, b1, .int .i64 p1])).e)))) g → EvF TT 76 [sub (.agg [d1, .int .i64 k1, .str s1, .str r1, .int .i64 n1, a1, b1, .int .i64 p1]) 1 7] g Q := fun Q h => rExpr_ok _ _ g (Nat.lt_succ_self _) he1 Q h
  have h0 : fld (.agg [d1, .int .i64 k1, .str s1, .str r1, .int .i64 n1, a1, b1, .int .i64 p1]) 0 = d1 := rfl
  rw [e0, List.length_map] at hQ
  rw [e0] at hpd
  have ed := hd1.els undDecls
  have edl := ed.1.1
  generalize Dat.agg [d1, .int .i64 k1, .str s1, .str r1, .int .i64 n1, a1, b1, .int .i64 p1] = Y at *
  rw [h0]
  generalize (limF (!flEx (absPg Y).e) (absPg Y)) = LM at *
  generalize okEx (absPg Y).e = OE at *
  refine Br_iff.2 ⟨fun q => ?_, fun q => hsz _ ⟨_, rfl, Br_iff.2 ⟨fun q' => ?_, fun q' => ?_⟩⟩⟩
  · rw [show gtI 32 ((elsOf d1).length : Int) = true from q] at hQ; exact hQ
  · rw [show gtI 2048 _ = true from q'] at hQ
    exact qcast hQ (by simp)
  · rw [show gtI 32 ((elsOf d1).length : Int) = false from q, show gtI 2048 _ = false from q'] at hQ
    simp only [Bool.not_false, Bool.true_and] at hQ
    refine loopUp (len := (elsOf d1).length) (fun i => Qf (.val (.d (.bool ((((elsOf d1).drop i).map absDc).all rDc && ((LM == 0) && OE))))) g → L25_4 (i : Int) Y g Qf) ?_ ?_ 0 (Nat.zero_le _) hQ
    · intro hQ
      refine w25_4 ?_
      rw [h0, Br_ge]
      rw [List.drop_length] at hQ
      refine hlim _ ⟨_, rfl, Br_iff.2 ⟨fun q => hfin _ ⟨_, rfl, ?_⟩, fun q => ?_⟩⟩
      · rw [q] at hQ; exact hQ
      · rw [q] at hQ; exact hQ
    · intro i hi ih hQ
      refine w25_4 ?_
      rw [h0, Br_lt hi, getE_nat hi]
      rw [drop_map_cons hi, List.all_cons, rDc_eq] at hQ
      have hpi := hpd _ (List.mem_map.2 ⟨_, List.getElem_mem hi, rfl⟩)
      obtain ⟨s2, a2, b2, p2, e2, hs2, ha2, hb2⟩ := decl_ty (ed.2 _ (List.getElem_mem hi))
      have ea := ha2.els undStrs
      have eal := ea.1.1
      have eb := hb2.els undCons
      have ebl := eb.1.1
      rw [absDc_cs, absDc_ps, List.length_map, List.length_map] at hQ
      rw [e2] at hQ hpi ⊢
      have f1 : fld (Dat.agg [.str s2, a2, b2, .int .i64 p2]) 1 = a2 := rfl
      have f2 : fld (Dat.agg [.str s2, a2, b2, .int .i64 p2]) 2 = b2 := rfl
      have f3 : (absDc (Dat.agg [.str s2, a2, b2, .int .i64 p2])).s = s2 := rfl
      have f4 : strOf (fld (Dat.agg [.str s2, a2, b2, .int .i64 p2]) 0) = s2 := rfl
      have hpc : ∀ c ∈ (elsOf b2).map absCn, ∀ t ∈ c.fs, ndTy t ≤ 20000 ∧ dpTy t ≤ 601 := fun c hc t ht => ⟨(hpi.2 c hc t ht).1, (hpi.2 c hc t ht).2.1⟩
      rw [f1, f2, f3] at hQ
      rw [f1, f2, f4]
      generalize Dat.agg [.str s2, a2, b2, .int .i64 p2] = D at f1 f2
      refine ⟨inB hi, r12lowWord_ok hs2 ⟨_, rfl, Br_iff.2 ⟨fun q => ?_, fun q => Br_iff.2 ⟨fun q1 => ?_, fun q1 => Br_iff.2 ⟨fun q2 => ?_, fun q2 => Br_iff.2 ⟨fun q3 => ?_, fun q3 => ?_⟩⟩⟩⟩⟩⟩
      · rw [nb q] at hQ; exact hQ
      · rw [q1] at hQ; exact qcast hQ (by simp)
      · rw [show gtI 32 ((elsOf b2).length : Int) = true from q2] at hQ; exact qcast hQ (by simp)
      · rw [show gtI 4 ((elsOf a2).length : Int) = true from q3] at hQ; exact qcast hQ (by simp)
      · rw [nb' q, q1, show gtI 32 ((elsOf b2).length : Int) = false from q2, show gtI 4 ((elsOf a2).length : Int) = false from q3] at hQ
        simp only [Bool.true_and, Bool.not_false] at hQ
        have cons : Qf (.val (.d (.bool (((elsOf b2).map absCn).all cnOk && ((((elsOf d1).drop (i + 1)).map absDc).all rDc && ((LM == 0) && OE)))))) g → L25_15 (i : Int) 0 D Y g Qf := by
          intro hQ
          refine loopUp (len := (elsOf b2).length) (fun j => Qf (.val (.d (.bool ((((elsOf b2).drop j).map absCn).all cnOk && ((((elsOf d1).drop (i + 1)).map absDc).all rDc && ((LM == 0) && OE)))))) g → L25_15 (i : Int) (j : Int) D Y g Qf) ?_ ?_ 0 (Nat.zero_le _) hQ
          · intro hQ
            refine w25_15 ?_
            rw [f2, Br_ge, wrap_nat (by omega)]
            rw [List.drop_length] at hQ
            exact ih hQ
          · intro j hj ihj hQ
            have hj' : j < (elsOf (fld D 2)).length := by rw [f2]; exact hj
            refine w25_15 ?_
            rw [Br_lt hj', getE_nat hj']
            rw [drop_map_cons hj, List.all_cons, cnOk, absCn_fs] at hQ
            have hcj : (elsOf (fld D 2))[j] = (elsOf b2)[j] := by simp only [f2]
            rw [hcj]
            have hpj := hpc _ (List.mem_map.2 ⟨_, List.getElem_mem hj, rfl⟩)
            rw [absCn_fs] at hpj
            obtain ⟨s3, f5, e3, hs3, hf5⟩ := con_ty (eb.2 _ (List.getElem_mem hj))
            have hc : badCn (absCn (elsOf b2)[j]) = gtI 8 ((elsOf f5).length : Int) := by
              unfold badCn
              rw [absCn_len, e3]
              rfl
            rw [hc] at hQ
            rw [e3] at hQ hcj hpj ⊢
            have hf2 : fld (Dat.agg [.str s3, f5]) 1 = f5 := rfl
            have hf3 : (absCn (Dat.agg [.str s3, f5])).s = s3 := rfl
            have hf4 : strOf (fld (Dat.agg [.str s3, f5]) 0) = s3 := rfl
            rw [hf2, hf3] at hQ
            rw [hf2] at hpj
            rw [hf2, hf4]
            refine ⟨inB hj', r12upWord_ok hs3 ⟨_, rfl, Br_iff.2 ⟨fun q => ?_, fun q => ⟨inB hj', Br_iff.2 ⟨fun q1 => ?_, fun q1 => ?_⟩⟩⟩⟩⟩
            · rw [nb q] at hQ; exact hQ
            · rw [show gtI 8 ((elsOf f5).length : Int) = true from q1] at hQ; exact qcast hQ (by simp)
            · rw [nb' q, show gtI 8 ((elsOf f5).length : Int) = false from q1] at hQ
              simp only [Bool.true_and, Bool.not_false] at hQ
              cases hall : ((elsOf f5).map absTy).all fdOk with
              | false =>
                rw [hall] at hQ
                exact rcFields (R := false) hj' hcj hf2 hf5 hpj hQ (fun h => by rw [hall] at h; cases h)
              | true =>
                rw [hall, Bool.true_and] at hQ
                by_cases hF : ((((elsOf b2).drop (j + 1)).map absCn).all cnOk && ((((elsOf d1).drop (i + 1)).map absDc).all rDc && ((LM == 0) && OE))) = false
                · rw [hF] at hQ
                  refine rcFields (R := false) hj' hcj hf2 hf5 hpj hQ (fun _ => ?_)
                  rw [wrap_nat (by omega)]
                  exact ihj (by rw [hF]; exact hQ)
                · have hx : L25_15 (i : Int) (IntKind.i64.wrap ((j : Int) + 1)) D Y g Qf := by
                    rw [wrap_nat (by omega)]
                    exact ihj hQ
                  -- no field fails here: the loop is walked once more, without a way out
                  have ef := hf5.els undTypes
                  have efl := ef.1.1
                  refine loopUp (len := (elsOf f5).length) (fun i' => (((elsOf f5).drop i').map absTy).all fdOk = true → L25_20 (i : Int) (j : Int) (i' : Int) D Y g Qf) ?_ ?_ 0 (Nat.zero_le _) hall
                  · intro _
                    refine w25_20 ⟨inB hj', ?_⟩
                    rw [getE_nat hj', hcj, hf2, Br_ge]
                    exact hx
                  · intro i' hi' ih' h
                    refine w25_20 ⟨inB hj', ?_⟩
                    rw [getE_nat hj', hcj, hf2, Br_lt hi', getE_nat hi']
                    rw [drop_map_cons hi', List.all_cons, fdOk, Bool.and_eq_true, Bool.and_eq_true] at h
                    obtain ⟨n1, n2⟩ := hpj _ (List.mem_map.2 ⟨_, List.getElem_mem hi', rfl⟩)
                    refine ⟨inB hj', inB hi', deepType_ok _ _ g 256 (Nat.lt_succ_self _) (ef.2 _ (List.getElem_mem hi')) (by omega) _ ⟨_, rfl, ?_⟩⟩
                    rw [show decide (256 < dpTy (absTy (elsOf f5)[i'])) = false by simpa [g256] using h.1.1, Br_false]
                    refine ⟨inB hj', inB hi', rType_ok _ _ g 1048576 (Nat.lt_succ_self _) (ef.2 _ (List.getElem_mem hi')) (by omega) (by omega) _ ⟨_, rfl, ?_⟩⟩
                    rw [h.1.2, wrap_nat (by omega), cond_true, show decide (((1048576 - ndTy (absTy (elsOf f5)[i']) : Nat) : Int) < 0) = false from decide_eq_false (by omega), Br_false]
                    exact ih' h.2
        refine loopUp (len := (elsOf a2).length) (fun j => Qf (.val (.d (.bool ((((elsOf a2).drop j).map strOf).all wVar && (((elsOf b2).map absCn).all cnOk && ((((elsOf d1).drop (i + 1)).map absDc).all rDc && ((LM == 0) && OE))))))) g → L25_10 (i : Int) (j : Int) D Y g Qf) ?_ ?_ 0 (Nat.zero_le _) (qcast hQ (by rw [List.drop_zero]; simp only [Bool.and_assoc]))
        · intro hQ
          refine w25_10 ?_
          rw [f1, Br_ge]
          rw [List.drop_length] at hQ
          exact cons hQ
        · intro j hj ihj hQ
          have hj' : j < (elsOf (fld D 1)).length := by rw [f1]; exact hj
          refine w25_10 ?_
          rw [Br_lt hj', getE_nat hj']
          rw [drop_map_cons hj, List.all_cons] at hQ
          have hcj : (elsOf (fld D 1))[j] = (elsOf a2)[j] := by simp only [f1]
          rw [hcj]
          obtain ⟨t1, d2, ht1⟩ := str_ty (ea.2 _ (List.getElem_mem hj))
          rw [d2] at hQ ⊢
          refine ⟨inB hj', r11Word_ok (s := t1) true ht1 ⟨_, rfl, Br_iff.2 ⟨fun q => ?_, fun q => ?_⟩⟩⟩
          · rw [show wVar (strOf (.str t1)) = false from nb q] at hQ; exact hQ
          · rw [show wVar (strOf (.str t1)) = true from nb' q] at hQ
            rw [wrap_nat (by omega)]
            exact ihj hQ
end
/-! ### The law -/
theorem strs_of {x : Dat} (h : StrB x) : (strOf x).length < 2 ^ 40 := by
  cases h with
  | str s h => simp only [strOf]; omega
  | _ => simp [strOf]
theorem strB_els {x : Dat} (h : StrB x) : ∀ y ∈ elsOf x, StrB y := by
  cases h with
  | sl m xs _ h => exact h
  | _ => intro y hy; simp [elsOf] at hy
theorem nth_mem' : ∀ {cs : List Dat} {o : Nat}, nth cs o ∈ cs ∨ nth cs o = .nil
  | [], o => .inr rfl
  | x :: l, 0 => .inl List.mem_cons_self
  | x :: l, o + 1 => by
    rcases nth_mem' (cs := l) (o := o) with h | h
    · exact .inl (List.mem_cons_of_mem _ h)
    · exact .inr h
theorem strB_fld {x : Dat} (h : StrB x) (o : Nat) : StrB (fld x o) := by
  cases h with
  | agg cs h =>
    simp only [fld]
    rcases nth_mem' (cs := cs) (o := o) with h' | h'
    · exact h _ h'
    · rw [h']; exact .nil
  | bool b => exact .bool b
  | int k n => exact .int k n
  | str s h => exact .str s h
  | nil => exact .nil
  | sl m xs hl h => exact .sl m xs hl h
theorem vr_of : ∀ (k : Nat) (x : Dat), SizeOf.sizeOf x < k → HasTy TT 94 x → StrB x → vrTy (absTy x) = true
  | 0, x, hk, _, _ => by omega
  | k + 1, x, hk, hx, hb => by
    obtain ⟨k1, s1, v1, a1, rfl, hs1, t1⟩ := type_ty hx
    have ex := t1.els undTypes
    have hc := sizeOf_cell (cs := [.int .i64 k1, .str s1, .int .i64 v1, a1]) (c := a1) (by simp)
    simp only [absTy, vrTy, Bool.and_eq_true, decide_eq_true_eq]
    refine ⟨strs_of (strB_fld hb 1), ?_⟩
    rw [absTyA_map]
    have hall : ∀ y ∈ elsOf a1, vrTy (absTy y) = true := fun y hy => by
      obtain ⟨i, hi, rfl⟩ := List.getElem_of_mem hy
      have hsz := sizeOf_el hi
      exact vr_of k _ (by omega) (ex.2 _ hy) (strB_els (strB_fld hb 3) _ hy)
    have : ∀ l : List Dat, (∀ y ∈ l, vrTy (absTy y) = true) → vrTys (l.map absTy) = true := by
      intro l
      induction l with
      | nil => intro _; rfl
      | cons y l ih =>
        intro h
        rw [List.map_cons, vrTys, h y List.mem_cons_self, ih fun z hz => h z (List.mem_cons_of_mem _ hz)]
        rfl
    exact this _ hall
theorem pre_of {x : Dat} (hx : HasTy TT 29 x) (hb : StrB x) (h1 : ∀ d ∈ elsOf (fld x 0), SmDc d) (h2 : szEx (absPg x).e ≤ 20000) (h3 : dpEx (absPg x).e ≤ 601) : Pre (absPg x) where
  sz := h2
  dp := h3
  ds := by
    obtain ⟨d1, k1, s1, r1, n1, a1, b1, p1, rfl, hd1, he1⟩ := prog_ty hx
    intro d hd
    obtain ⟨y, hy, rfl⟩ := List.mem_map.1 (show d ∈ (elsOf d1).map absDc from hd)
    have hby := strB_els (strB_fld hb 0) y hy
    have hty := (hd1.els undDecls).2 y hy
    refine ⟨fun s hs => ?_, fun c hc t ht => ?_⟩
    · obtain ⟨z, hz, rfl⟩ := List.mem_map.1 (show s ∈ (elsOf (fld y 1)).map strOf from hs)
      exact strs_of (strB_els (strB_fld hby 1) z hz)
    · obtain ⟨z, hz, rfl⟩ := List.mem_map.1 (show c ∈ (elsOf (fld y 2)).map absCn from hc)
      rw [absCn_fs] at ht
      obtain ⟨u, hu, rfl⟩ := List.mem_map.1 ht
      have hsm := h1 y hy z hz u hu
      refine ⟨hsm.1, hsm.2, ?_⟩
      obtain ⟨s2, a2, b2, p2, rfl, _, _, hb2⟩ := decl_ty hty
      have hz' : z ∈ elsOf b2 := hz
      have hbz := strB_els (strB_fld hby 2) z hz
      have htz := (hb2.els undCons).2 z hz'
      obtain ⟨s3, f3, rfl, _, hf3⟩ := con_ty htz
      exact vr_of _ u (Nat.lt_succ_self _) ((hf3.els undTypes).2 u hu) (strB_els (strB_fld hbz 1) u hu)
theorem parseChecksLaw (x : Dat) (g : Glob) (hx : HasTy TT 29 x) (hb : StrB x) (Qf : Out → Glob → Prop) (hQ : Qf (.val (.d (.bool true))) g) : EvF TT 7 [x] g Qf := by
  refine w7 hx ?_
  refine large_all x g hx _ ⟨_, rfl, wakes_ok g _ ⟨_, rfl, hQ⟩⟩ fun h1 h2 h3 => ⟨_, rfl, ?_⟩
  have hp := pre_of hx hb h1 h2 h3
  refine copy_ok x g hx _ fun a ha ea => ⟨a, ha, rfl, ?_⟩
  refine parseCheck_ok ha (by rw [ea]; exact hp) ⟨_, rfl, rCheck_ok hx hp ⟨_, rfl, ?_⟩⟩
  rw [ea, checkP_eq, beq_self_eq_true, Br_true]
  refine copy_ok x g hx _ fun b hb eb => ⟨b, hb, rfl, ?_⟩
  refine parseSize_ok b g hb _ ⟨_, rfl, refSize_ok x g hx _ ⟨_, rfl, ?_⟩⟩
  rw [eb, beq_self_eq_true, Br_true]
  refine refSame_ok true a x g ha hx _ ⟨_, rfl, ?_⟩
  rw [ea, eqPg_refl, Br_true]
  exact wakes_ok g _ ⟨_, rfl, hQ⟩
end Go.Proofs.YtgmapdcdmomioaaGreatDoor.Pa
