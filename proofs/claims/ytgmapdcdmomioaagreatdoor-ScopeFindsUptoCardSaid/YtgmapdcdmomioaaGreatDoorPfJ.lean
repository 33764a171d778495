/- Which types and patterns may be: the program's tests, the document's. -/
import Derived.Test.YtgmapdcdmomioaaGreatDoorPfI
set_option linter.all false
set_option linter.all false
set_option autoImplicit false
set_option maxRecDepth 100000
namespace Go.Proofs.YtgmapdcdmomioaaGreatDoor.Pa
open Go Go.Proofs.YtgmapdcdmomioaaGreatDoor.Am
def okTy1 (k : Int) (s : Str) (n : Int) (l : Int) : Bool :=
  (bif k == 1 then (s == []) && (l == 0) else bif k == 2 then wVar s && (l == 0) else bif k == 3 then (s == []) && (l == 2) else bif k == 4 then wLow s && !(s == [105, 110, 116]) else false) && (n == 0)
mutual
def okTy : Ty → Bool
  | .mk k s n a => okTy1 k s n a.length && okTys a
def okTys : List Ty → Bool
  | [] => true
  | x :: l => okTy x && okTys l
end
mutual
def vrTy : Ty → Bool
  | .mk _ s _ a => decide (s.length < 2 ^ 40) && vrTys a
def vrTys : List Ty → Bool
  | [] => true
  | x :: l => vrTy x && vrTys l
end
def okPt1 (k : Int) (s : Str) (n : Int) (l : Int) : Bool :=
  bif k == 1 then (s == []) && ((n == 0) && (l == 0)) else bif k == 2 then wLow s && ((n == 0) && (l == 0)) else bif k == 3 then (s == []) && (inI n && (l == 0)) else bif k == 4 then wUp s && (n == 0) else false
mutual
def okPt : Pt → Bool
  | .mk k s n a _ => okPt1 k s n a.length && okPts a
def okPts : List Pt → Bool
  | [] => true
  | x :: l => okPt x && okPts l
end
def le8 (n : Int) : Bool := decide (n ≤ 8)
def gt8 (n : Int) : Bool := decide (8 < n)
mutual
def nwPt : Pt → Bool
  | .mk _ _ _ a _ => le8 a.length && nwPts a
def nwPts : List Pt → Bool
  | [] => true
  | x :: l => nwPt x && nwPts l
end
mutual
def flPt : Pt → Bool
  | .mk k _ _ a _ => ((k == 4) && gt8 a.length) || flPts a
def flPts : List Pt → Bool
  | [] => false
  | x :: l => flPt x || flPts l
end
theorem okTys_any (xs : List Dat) : xs.any (fun y => !okTy (absTy y)) = !okTys (xs.map absTy) := by induction xs with
  | nil => rfl
  | cons x xs ih => simp [okTys, ih]
theorem okPts_any (xs : List Dat) : xs.any (fun y => !okPt (absPt y)) = !okPts (xs.map absPt) := by induction xs with
  | nil => rfl
  | cons x xs ih => simp [okPts, ih]
theorem nwPts_any (xs : List Dat) : xs.any (fun y => !nwPt (absPt y)) = !nwPts (xs.map absPt) := by induction xs with
  | nil => rfl
  | cons x xs ih => simp [nwPts, ih]
theorem vrTys_mem {l : List Ty} (h : vrTys l = true) : ∀ t ∈ l, vrTy t = true := by induction l with
  | nil => intro t ht; cases ht
  | cons x l ih =>
    simp only [vrTys, Bool.and_eq_true] at h
    intro t ht
    rcases List.mem_cons.1 ht with rfl | ht
    · exact h.1
    · exact ih h.2 t ht
theorem absTyA_len (x : Dat) : (absTyA x).length = (elsOf x).length := by rw [absTyA_map, List.length_map]
theorem absPtA_len (x : Dat) : (absPtA x).length = (elsOf x).length := by rw [absPtA_map, List.length_map]
theorem absExA_len (x : Dat) : (absExA x).length = (elsOf x).length := by rw [absExA_map, List.length_map]
theorem typeOf_ok : ∀ (k : Nat) (x : Dat) (g : Glob), SizeOf.sizeOf x < k → HasTy TT 94 x → vrTy (absTy x) = true → ∀ (Qf : Out → Glob → Prop), Qf (.val (.d (.bool (okTy (absTy x))))) g → EvF TT 139 [x] g Qf
  | 0, x, g, hk, _, _ => by omega
  | k + 1, x, g, hk, hx, hv => by
    intro Qf hQ
    refine w139 hx ?_
    obtain ⟨k1, s1, v1, a1, rfl, hs1, t1⟩ := type_ty hx
    simp only [absTy, okTy, absTyA_len] at hQ
    simp only [absTy, vrTy, Bool.and_eq_true, decide_eq_true_eq] at hv
    have ex := t1.els undTypes
    have hc := sizeOf_cell (cs := [.int .i64 k1, .str s1, .int .i64 v1, a1]) (c := a1) (by simp)
    simp only [fld, nth, intOf, strOf]
    have tail : Qf (.val (.d (.bool (okTys (absTyA a1))))) g → EvF TT 137 [a1, .clo 202 []] g fun out g' => Outc (fun x => Qf (.panic x) g') (fun v => ∃ b, v = Val.d (.bool b) ∧ Qf (.val (.d (.bool !b))) g') out := fun h =>
      containsTypes_ok (p := fun y => !okTy (absTy y)) t1 (fun y hy Q q => by
        obtain ⟨i, hi, rfl⟩ := List.getElem_of_mem hy
        have hsz := sizeOf_el hi
        exact w202 (ex.2 _ hy) (typeOf_ok k _ g (by omega) (ex.2 _ hy) (vrTys_mem (by rw [absTyA_map] at hv; exact hv.2) _ (List.mem_map.2 ⟨_, hy, rfl⟩)) _ ⟨_, rfl, q⟩)) ⟨_, rfl, qcast h (by rw [okTys_any, Bool.not_not, absTyA_map])⟩
    repeat' (first
      | refine Br_iff.2 ⟨fun q => ?_, fun q => ?_⟩
      | refine wordVar_ok hv.1 ⟨_, rfl, ?_⟩
      | refine wordLow_ok hs1 ⟨_, rfl, ?_⟩
      | refine tail ?_)
    all_goals (refine qcast hQ ?_; simp_all [okTy1])
theorem rType_ok : ∀ (k : Nat) (x : Dat) (g : Glob) (l : Nat), SizeOf.sizeOf x < k → HasTy TT 94 x → ndTy (absTy x) ≤ l → l ≤ 2 ^ 30 → ∀ (Qf : Out → Glob → Prop), Qf (.val (.d (.int .i64 (bif okTy (absTy x) then ((l - ndTy (absTy x) : Nat) : Int) else -1)))) g → EvF TT 75 [x, .int .i64 (l : Int)] g Qf
  | 0, x, g, l, hk, _, _, _ => by omega
  | k + 1, x, g, l, hk, hx, hn, hl => by
    intro Qf hQ
    refine w75 hx ?_
    obtain ⟨k1, s1, v1, a1, rfl, hs1, t1⟩ := type_ty hx
    have ex := t1.els undTypes
    have exl := ex.1.1
    have hc := sizeOf_cell (cs := [.int .i64 k1, .str s1, .int .i64 v1, a1]) (c := a1) (by simp)
    simp only [absTy, okTy, absTyA_len, ndTy] at hQ hn
    obtain ⟨l, rfl⟩ : ∃ m, l = m + 1 := ⟨l - 1, by omega⟩
    have hw : IntKind.i64.wrap (((l + 1 : Nat) : Int) - 1) = (l : Int) := by rw [wrap_id (by omega) (by omega)]; omega
    rw [hw]
    have rest : okTy1 k1 s1 v1 ((elsOf a1).length : Int) = true → L75_17 (l : Int) 0 (.agg [.int .i64 k1, .str s1, .int .i64 v1, a1]) g Qf := by
      intro h1
      rw [h1, Bool.true_and] at hQ
      have hQ : Qf (.val (.d (.int .i64 (bif okTys (((elsOf a1).drop 0).map absTy) then ((l - ndTys (((elsOf a1).drop 0).map absTy) : Nat) : Int) else -1)))) g := by
        rw [List.drop_zero, ← absTyA_map]
        refine qint hQ ?_
        cases okTys (absTyA a1)
        · rfl
        · simp only [cond_true]; omega
      refine loopUp (len := (elsOf a1).length) (fun i => ∀ m : Nat, m ≤ 2 ^ 30 → ndTys (((elsOf a1).drop i).map absTy) ≤ m → Qf (.val (.d (.int .i64 (bif okTys (((elsOf a1).drop i).map absTy) then ((m - ndTys (((elsOf a1).drop i).map absTy) : Nat) : Int) else -1)))) g → L75_17 (m : Int) (i : Int) (.agg [.int .i64 k1, .str s1, .int .i64 v1, a1]) g Qf) ?_ ?_ 0 (Nat.zero_le _) l (by omega) (by rw [List.drop_zero, ← absTyA_map]; omega) hQ
      · intro m _ _ hQ
        refine w75_17 ?_
        rw [show (fld (Dat.agg [.int .i64 k1, .str s1, .int .i64 v1, a1]) 3) = a1 from rfl, Br_ge]
        rw [List.drop_length] at hQ
        exact hQ
      · intro i hi ih m hm hnm hQ
        refine w75_17 ?_
        rw [show (fld (Dat.agg [.int .i64 k1, .str s1, .int .i64 v1, a1]) 3) = a1 from rfl, Br_lt hi, getE_nat hi, show decide ((0 : Int) ≤ (m : Int)) = true from decide_eq_true (by omega), Br_true]
        have hsz := sizeOf_el hi
        rw [ndTys_drop hi] at hnm hQ
        rw [List.drop_eq_getElem_cons hi, List.map_cons, okTys] at hQ
        refine ⟨inB hi, rType_ok k _ g m (by omega) (ex.2 _ (List.getElem_mem hi)) (by omega) hm _ ⟨_, rfl, ?_⟩⟩
        rw [wrap_nat (by omega)]
        cases ho : okTy (absTy (elsOf a1)[i]) with
        | true =>
          rw [ho] at hQ
          simp only [cond_true, Bool.true_and] at hQ ⊢
          refine ih _ (by omega) (by omega) (qint hQ ?_)
          cases okTys (((elsOf a1).drop (i + 1)).map absTy)
          · rfl
          · simp only [cond_true]; omega
        | false =>
          rw [ho] at hQ
          simp only [cond_false, Bool.false_and] at hQ ⊢
          refine w75_17 (Br_iff.2 ⟨fun _ => ?_, fun _ => hQ⟩)
          exact hQ
    have bad : okTy1 k1 s1 v1 ((elsOf a1).length : Int) = false → Qf (.val (.d (.int .i64 (-1)))) g := fun h => by
      rw [h] at hQ
      exact hQ
    simp only [fld, nth, intOf, strOf]
    refine Br_iff.2 ⟨fun q => absurd (of_decide_eq_true q) (by omega), fun _ => ?_⟩
    repeat' (first
      | refine Br_iff.2 ⟨fun q => ?_, fun q => ?_⟩
      | refine r11Word_ok true hs1 ⟨_, rfl, ?_⟩
      | refine r12lowWord_ok hs1 ⟨_, rfl, ?_⟩)
    all_goals first
      | (refine rest ?_; simp_all [okTy1, wVar])
      | (refine bad ?_; simp_all [okTy1, wVar])
theorem patOf_ok : ∀ (k : Nat) (x : Dat) (g : Glob), SizeOf.sizeOf x < k → HasTy TT 127 x → ∀ (Qf : Out → Glob → Prop), Qf (.val (.d (.bool (okPt (absPt x))))) g → EvF TT 132 [x] g Qf
  | 0, x, g, hk, _ => by omega
  | k + 1, x, g, hk, hx => by
    intro Qf hQ
    refine w132 hx ?_
    obtain ⟨k1, s1, v1, a1, p1, rfl, hs1, t1⟩ := pat_ty hx
    simp only [absPt, okPt, absPtA_len] at hQ
    have ex := t1.els undPats
    have hc := sizeOf_cell (cs := [.int .i64 k1, .str s1, .int .i64 v1, a1, .int .i64 p1]) (c := a1) (by simp)
    simp only [fld, nth, intOf, strOf]
    have tail : Qf (.val (.d (.bool (okPts (absPtA a1))))) g → EvF TT 130 [a1, .clo 198 []] g fun out g' => Outc (fun x => Qf (.panic x) g') (fun v => ∃ b, v = Val.d (.bool b) ∧ Qf (.val (.d (.bool !b))) g') out := fun h =>
      containsPats_ok (p := fun y => !okPt (absPt y)) t1 (fun y hy Q q => by
        obtain ⟨i, hi, rfl⟩ := List.getElem_of_mem hy
        have hsz := sizeOf_el hi
        exact w198 (ex.2 _ hy) (patOf_ok k _ g (by omega) (ex.2 _ hy) _ ⟨_, rfl, q⟩)) ⟨_, rfl, qcast h (by rw [okPts_any, Bool.not_not, absPtA_map])⟩
    repeat' (first
      | refine Br_iff.2 ⟨fun q => ?_, fun q => ?_⟩
      | refine wordLow_ok hs1 ⟨_, rfl, ?_⟩
      | refine wordUp_ok hs1 ⟨_, rfl, ?_⟩
      | refine intsIn_ok ⟨_, rfl, ?_⟩
      | refine tail ?_)
    all_goals (refine qcast hQ ?_; simp_all [okPt1])
theorem rPat_ok : ∀ (k : Nat) (x : Dat) (g : Glob), SizeOf.sizeOf x < k → HasTy TT 127 x → ∀ (Qf : Out → Glob → Prop), Qf (.val (.d (.bool (okPt (absPt x))))) g → EvF TT 142 [x] g Qf
  | 0, x, g, hk, _ => by omega
  | k + 1, x, g, hk, hx => by
    intro Qf hQ
    refine w142 hx ?_
    obtain ⟨k1, s1, v1, a1, p1, rfl, hs1, t1⟩ := pat_ty hx
    simp only [absPt, okPt, absPtA_len] at hQ
    have ex := t1.els undPats
    have exl := ex.1.1
    have hc := sizeOf_cell (cs := [.int .i64 k1, .str s1, .int .i64 v1, a1, .int .i64 p1]) (c := a1) (by simp)
    simp only [fld, nth, intOf, strOf]
    have rest : ∀ b : Bool, b = okPt1 k1 s1 v1 ((elsOf a1).length : Int) → L142_12 b 0 (.agg [.int .i64 k1, .str s1, .int .i64 v1, a1, .int .i64 p1]) g Qf := by
      intro b hb
      rw [← hb, absPtA_map] at hQ
      refine loopUp (len := (elsOf a1).length) (fun i => ∀ b : Bool, Qf (.val (.d (.bool (b && okPts (((elsOf a1).drop i).map absPt))))) g → L142_12 b (i : Int) (.agg [.int .i64 k1, .str s1, .int .i64 v1, a1, .int .i64 p1]) g Qf) ?_ ?_ 0 (Nat.zero_le _) b hQ
      · intro b hQ
        refine w142_12 ?_
        rw [show (fld (Dat.agg [.int .i64 k1, .str s1, .int .i64 v1, a1, .int .i64 p1]) 3) = a1 from rfl, Br_ge]
        rw [List.drop_length] at hQ
        exact qcast hQ (by simp [okPts])
      · intro i hi ih b hQ
        refine w142_12 ?_
        rw [show (fld (Dat.agg [.int .i64 k1, .str s1, .int .i64 v1, a1, .int .i64 p1]) 3) = a1 from rfl, Br_lt hi, getE_nat hi]
        have hsz := sizeOf_el hi
        rw [List.drop_eq_getElem_cons hi, List.map_cons, okPts] at hQ
        cases b with
        | false => exact hQ
        | true =>
          refine ⟨inB hi, rPat_ok k _ g (by omega) (ex.2 _ (List.getElem_mem hi)) _ ⟨_, rfl, ?_⟩⟩
          rw [wrap_nat (by omega)]
          exact ih _ hQ
    repeat' (first
      | refine Br_iff.2 ⟨fun q => ?_, fun q => ?_⟩
      | refine r12lowWord_ok hs1 ⟨_, rfl, ?_⟩
      | refine r12upWord_ok hs1 ⟨_, rfl, ?_⟩
      | refine r10In_ok ⟨_, rfl, ?_⟩)
    all_goals (refine rest _ ?_; simp_all [okPt1])
theorem patNarrow_ok : ∀ (k : Nat) (x : Dat) (g : Glob), SizeOf.sizeOf x < k → HasTy TT 127 x → ∀ (Qf : Out → Glob → Prop), Qf (.val (.d (.bool (nwPt (absPt x))))) g → EvF TT 184 [x] g Qf
  | 0, x, g, hk, _ => by omega
  | k + 1, x, g, hk, hx => by
    intro Qf hQ
    refine w184 hx ?_
    obtain ⟨k1, s1, v1, a1, p1, rfl, hs1, t1⟩ := pat_ty hx
    simp only [absPt, nwPt, absPtA_len] at hQ
    have ex := t1.els undPats
    have hc := sizeOf_cell (cs := [.int .i64 k1, .str s1, .int .i64 v1, a1, .int .i64 p1]) (c := a1) (by simp)
    simp only [fld, nth, intOf, strOf]
    refine Br_iff.2 ⟨fun q => ?_, fun q => ?_⟩
    · rw [show le8 _ = true from q, Bool.true_and] at hQ
      exact containsPats_ok (p := fun y => !nwPt (absPt y)) t1 (fun y hy Q q => by
        obtain ⟨i, hi, rfl⟩ := List.getElem_of_mem hy
        have hsz := sizeOf_el hi
        exact w215 (ex.2 _ hy) (patNarrow_ok k _ g (by omega) (ex.2 _ hy) _ ⟨_, rfl, q⟩)) ⟨_, rfl, qcast hQ (by rw [nwPts_any, Bool.not_not, absPtA_map])⟩
    · rw [show le8 _ = false from q, Bool.false_and] at hQ
      exact hQ
theorem fullPat_ok : ∀ (k : Nat) (x : Dat) (g : Glob), SizeOf.sizeOf x < k → HasTy TT 127 x → ∀ (Qf : Out → Glob → Prop), Qf (.val (.d (.bool (flPt (absPt x))))) g → EvF TT 192 [x] g Qf
  | 0, x, g, hk, _ => by omega
  | k + 1, x, g, hk, hx => by
    intro Qf hQ
    refine w192 hx ?_
    obtain ⟨k1, s1, v1, a1, p1, rfl, hs1, t1⟩ := pat_ty hx
    simp only [absPt, flPt, absPtA_len] at hQ
    have ex := t1.els undPats
    have exl := ex.1.1
    have hc := sizeOf_cell (cs := [.int .i64 k1, .str s1, .int .i64 v1, a1, .int .i64 p1]) (c := a1) (by simp)
    simp only [fld, nth, intOf, strOf]
    have rest : ((k1 == 4) && gt8 ((elsOf a1).length : Int)) = false → L192_4 0 (.agg [.int .i64 k1, .str s1, .int .i64 v1, a1, .int .i64 p1]) g Qf := by
      intro hb
      rw [hb, Bool.false_or, absPtA_map] at hQ
      refine loopUp (len := (elsOf a1).length) (fun i => Qf (.val (.d (.bool (flPts (((elsOf a1).drop i).map absPt))))) g → L192_4 (i : Int) (.agg [.int .i64 k1, .str s1, .int .i64 v1, a1, .int .i64 p1]) g Qf) ?_ ?_ 0 (Nat.zero_le _) hQ
      · intro hQ
        refine w192_4 ?_
        rw [show (fld (Dat.agg [.int .i64 k1, .str s1, .int .i64 v1, a1, .int .i64 p1]) 3) = a1 from rfl, Br_ge]
        rw [List.drop_length] at hQ
        exact hQ
      · intro i hi ih hQ
        refine w192_4 ?_
        rw [show (fld (Dat.agg [.int .i64 k1, .str s1, .int .i64 v1, a1, .int .i64 p1]) 3) = a1 from rfl, Br_lt hi, getE_nat hi]
        have hsz := sizeOf_el hi
        rw [List.drop_eq_getElem_cons hi, List.map_cons, flPts] at hQ
        refine ⟨inB hi, fullPat_ok k _ g (by omega) (ex.2 _ (List.getElem_mem hi)) _ ⟨_, rfl, Br_iff.2 ⟨fun q => ?_, fun q => ?_⟩⟩⟩
        · rw [q] at hQ; exact hQ
        · rw [q, Bool.false_or] at hQ
          rw [wrap_nat (by omega)]
          exact ih hQ
    refine Br_iff.2 ⟨fun q => Br_iff.2 ⟨fun q' => ?_, fun q' => ?_⟩, fun q => ?_⟩
    · rw [q, show gt8 _ = true from q'] at hQ; exact hQ
    · exact rest (by rw [q, show gt8 _ = false from q']; rfl)
    · exact rest (by rw [q]; rfl)
/-- Where patterns may be, they are narrow just if none is full. -/
theorem okPt_arg {k : Int} {s : Str} {n : Int} {a : List Pt} {p : Int} (h : okPt1 k s n a.length = true) : k = 4 ∨ a = [] := by
  unfold okPt1 at h
  by_cases h4 : k = 4
  · exact .inl h4
  · refine .inr (List.eq_nil_of_length_eq_zero ?_)
    rw [show (k == 4) = false by simpa using h4] at h
    cases h1 : (k == 1) <;> cases h2 : (k == 2) <;> cases h3 : (k == 3) <;> rw [h1, h2, h3] at h <;> simp at h <;> simp [h]
mutual
theorem nw_fl : ∀ x : Pt, okPt x = true → nwPt x = !flPt x
  | .mk k s n a p => fun h => by
    simp only [okPt, Bool.and_eq_true] at h
    have ih := nws_fls a h.2
    simp only [nwPt, flPt, ih]
    rcases okPt_arg (p := p) h.1 with rfl | rfl
    · rw [show (((4 : Int) == 4)) = true from rfl, Bool.true_and, Bool.not_or]
      congr 1
      unfold le8 gt8
      by_cases hl : (a.length : Int) ≤ 8
      · rw [decide_eq_true hl, decide_eq_false (by omega)]; rfl
      · rw [decide_eq_false hl, decide_eq_true (by omega)]; rfl
    · simp [flPts, le8, gt8]
theorem nws_fls : ∀ l : List Pt, okPts l = true → nwPts l = !flPts l
  | [] => fun _ => rfl
  | x :: l => fun h => by
    simp only [okPts, Bool.and_eq_true] at h
    simp only [nwPts, flPts, nw_fl x h.1, nws_fls l h.2, Bool.not_or]
end
end Go.Proofs.YtgmapdcdmomioaaGreatDoor.Pa
