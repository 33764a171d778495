/- Limits of programs, and which may have been read: the program's tests, the document's. Limits as the document has them; which declared types and programs may be. What functions of the program do, printed by wip/tools/sx/sx.py. The document's Check told; the law ParseChecks answers true. -/
import Derived.Test.YtgmapdcdmomioaaGreatDoorRH
import Derived.Test.YtgmapdcdmomioaaGreatDoorRD
set_option linter.all false
set_option autoImplicit false
set_option maxRecDepth 100000
namespace Go.Proofs.YtgmapdcdmomioaaGreatDoor.Pa
open Go Go.Proofs.YtgmapdcdmomioaaGreatDoor.Am
def gtI (m n : Int) : Bool := decide (m < n)
def badCn (c : Cn) : Bool := gtI 8 c.fs.length
def badDc (d : Dc) : Bool := gtI 4 d.ps.length || (gtI 32 d.cs.length || d.cs.any badCn)
def dpCns : List Cn → Nat
  | [] => 0
  | c :: l => max (dpTys c.fs) (dpCns l)
def dpDcs : List Dc → Nat
  | [] => 0
  | d :: l => max (dpCns d.cs) (dpDcs l)
def limF (nw : Bool) (P : Pg) : Int :=
  bif gtI 32 P.ds.length || (gtI 2048 (upto 0 (szEx P.e)) || !nw) then 3 else bif P.ds.any badDc then 3 else bif gtI 256 ((max (dpEx P.e) (dpDcs P.ds) : Nat) : Int) then 4 else 0
structure Pre (P : Pg) : Prop where
  ds : ∀ d ∈ P.ds, (∀ s ∈ d.ps, s.length < 2 ^ 40) ∧ ∀ c ∈ d.cs, ∀ t ∈ c.fs, ndTy t ≤ 20000 ∧ dpTy t ≤ 20000 ∧ vrTy t = true
  sz : szEx P.e ≤ 20000
  dp : dpEx P.e ≤ 20000
theorem absCn_fs (x : Dat) : (absCn x).fs = (elsOf (fld x 1)).map absTy := absTyA_map _
theorem absCn_len (x : Dat) : (absCn x).fs.length = (elsOf (fld x 1)).length := by rw [absCn_fs, List.length_map]
theorem absDc_cs (x : Dat) : (absDc x).cs = (elsOf (fld x 2)).map absCn := rfl
theorem absDc_ps (x : Dat) : (absDc x).ps = (elsOf (fld x 1)).map strOf := rfl
theorem dpTys_le {l : List Ty} {n : Nat} (h : ∀ t ∈ l, dpTy t ≤ n) : dpTys l ≤ n := by induction l with
  | nil => exact Nat.zero_le _
  | cons t l ih =>
    have h1 := h t List.mem_cons_self
    have h2 := ih fun t ht => h t (List.mem_cons_of_mem _ ht)
    simp only [dpTys]
    omega
theorem dpCns_le {l : List Cn} {n : Nat} (h : ∀ c ∈ l, ∀ t ∈ c.fs, dpTy t ≤ n) : dpCns l ≤ n := by induction l with
  | nil => exact Nat.zero_le _
  | cons c l ih =>
    have h1 := dpTys_le (h c List.mem_cons_self)
    have h2 := ih fun t ht => h t (List.mem_cons_of_mem _ ht)
    simp only [dpCns]
    omega
theorem drop_map_cons {α β : Type} {f : α → β} {xs : List α} {i : Nat} (hi : i < xs.length) : (xs.drop i).map f = f xs[i] :: (xs.drop (i + 1)).map f := by
  rw [List.drop_eq_getElem_cons hi, List.map_cons]
section
variable {g : Glob} {Qf : Out → Glob → Prop}
theorem limTypes {f1 : Dat} (hf : HasTy TT 89 f1) {x63 x70 : Dat} {n64 n65 n71 n72 : Int} : ∀ m : Nat, m ≤ 20000 → dpTys ((elsOf f1).map absTy) ≤ 20000 → L47_20 ((max m (dpTys ((elsOf f1).map absTy)) : Nat) : Int) x63 n64 n65 x70 n71 (IntKind.i64.wrap (n72 + 1)) g Qf → L47_23 (m : Int) x63 n64 n65 x70 n71 n72 f1 ((elsOf f1).length : Int) 0 g Qf := by
  have ef := hf.els undTypes
  have efl := ef.1.1
  intro m hm hd hQ
  refine loopUp (len := (elsOf f1).length) (fun i => ∀ m : Nat, m ≤ 20000 → dpTys (((elsOf f1).drop i).map absTy) ≤ 20000 → L47_20 ((max m (dpTys (((elsOf f1).drop i).map absTy)) : Nat) : Int) x63 n64 n65 x70 n71 (IntKind.i64.wrap (n72 + 1)) g Qf → L47_23 (m : Int) x63 n64 n65 x70 n71 n72 f1 ((elsOf f1).length : Int) (i : Int) g Qf) ?_ ?_ 0 (Nat.zero_le _) m hm hd hQ
  · intro m hm hd hQ
    refine w47_23 ?_
    rw [Br_ge]
    rw [List.drop_length] at hQ
    simpa [dpTys] using hQ
  · intro i hi ih m hm hd hQ
    refine w47_23 ?_
    rw [Br_lt hi, getE_nat hi]
    rw [dpTys_drop hi] at hd hQ
    refine ⟨inB hi, typeDeep_ok _ _ g (Nat.lt_succ_self _) (ef.2 _ (List.getElem_mem hi)) (by omega) _ ⟨_, rfl, ?_⟩⟩
    rw [wrap_nat (by omega), maxS_nat]
    exact ih _ (by omega) (by omega) (by rw [Nat.max_assoc]; exact hQ)
theorem limCons {b1 : Dat} (hb : HasTy TT 74 b1) {x63 : Dat} {n64 n65 : Int} : ∀ m : Nat, m ≤ 20000 → dpCns ((elsOf b1).map absCn) ≤ 20000 → L47_17 ((max m (dpCns ((elsOf b1).map absCn)) : Nat) : Int) x63 n64 (IntKind.i64.wrap (n65 + 1)) g Qf → L47_20 (m : Int) x63 n64 n65 b1 ((elsOf b1).length : Int) 0 g Qf := by
  have eb := hb.els undCons
  have ebl := eb.1.1
  intro m hm hd hQ
  refine loopUp (len := (elsOf b1).length) (fun i => ∀ m : Nat, m ≤ 20000 → dpCns (((elsOf b1).drop i).map absCn) ≤ 20000 → L47_17 ((max m (dpCns (((elsOf b1).drop i).map absCn)) : Nat) : Int) x63 n64 (IntKind.i64.wrap (n65 + 1)) g Qf → L47_20 (m : Int) x63 n64 n65 b1 ((elsOf b1).length : Int) (i : Int) g Qf) ?_ ?_ 0 (Nat.zero_le _) m hm hd hQ
  · intro m hm hd hQ
    refine w47_20 ?_
    rw [Br_ge]
    rw [List.drop_length] at hQ
    simpa [dpCns] using hQ
  · intro i hi ih m hm hd hQ
    refine w47_20 ?_
    rw [Br_lt hi, getE_nat hi]
    rw [drop_map_cons hi, dpCns, absCn_fs] at hd hQ
    obtain ⟨s2, f1, e2, _, hf1⟩ := con_ty (eb.2 _ (List.getElem_mem hi))
    rw [e2] at hd hQ ⊢
    have hf : fld (Dat.agg [.str s2, f1]) 1 = f1 := rfl
    rw [hf] at hd hQ ⊢
    refine ⟨inB hi, limTypes hf1 m hm (by omega) ?_⟩
    rw [wrap_nat (by omega)]
    exact ih _ (by omega) (by omega) (by rw [Nat.max_assoc]; exact hQ)
theorem limDeep {d1 : Dat} (hd : HasTy TT 23 d1) : ∀ m : Nat, m ≤ 20000 → dpDcs ((elsOf d1).map absDc) ≤ 20000 → Qf (.val (.d (.int .i64 (bif gtI 256 ((max m (dpDcs ((elsOf d1).map absDc)) : Nat) : Int) then 4 else 0)))) g → L47_17 (m : Int) d1 ((elsOf d1).length : Int) 0 g Qf := by
  have ed := hd.els undDecls
  have edl := ed.1.1
  intro m hm hdp hQ
  refine loopUp (len := (elsOf d1).length) (fun i => ∀ m : Nat, m ≤ 20000 → dpDcs (((elsOf d1).drop i).map absDc) ≤ 20000 → Qf (.val (.d (.int .i64 (bif gtI 256 ((max m (dpDcs (((elsOf d1).drop i).map absDc)) : Nat) : Int) then 4 else 0)))) g → L47_17 (m : Int) d1 ((elsOf d1).length : Int) (i : Int) g Qf) ?_ ?_ 0 (Nat.zero_le _) m hm hdp hQ
  · intro m hm hdp hQ
    refine w47_17 ?_
    rw [Br_ge]
    rw [List.drop_length] at hQ
    simp only [List.map_nil, dpDcs, Nat.max_zero] at hQ
    refine Br_iff.2 ⟨fun q => ?_, fun q => ?_⟩
    · rw [show gtI 256 _ = true from q] at hQ; exact hQ
    · rw [show gtI 256 _ = false from q] at hQ; exact hQ
  · intro i hi ih m hm hdp hQ
    refine w47_17 ?_
    rw [Br_lt hi, getE_nat hi]
    rw [drop_map_cons hi, dpDcs, absDc_cs] at hdp hQ
    obtain ⟨s2, a2, b2, p2, e2, _, ha2, hb2⟩ := decl_ty (ed.2 _ (List.getElem_mem hi))
    rw [e2] at hdp hQ ⊢
    have hf : fld (Dat.agg [.str s2, a2, b2, .int .i64 p2]) 2 = b2 := rfl
    rw [hf] at hdp hQ ⊢
    refine ⟨inB hi, limCons hb2 m hm (by omega) ?_⟩
    rw [wrap_nat (by omega)]
    exact ih _ (by omega) (by omega) (by rw [Nat.max_assoc]; exact hQ)
theorem limBad {d1 y : Dat} (hd : HasTy TT 23 d1) (hT : (((elsOf d1).map absDc).any badDc = true) → Qf (.val (.d (.int .i64 3))) g) (hF : (((elsOf d1).map absDc).any badDc = false) → EvF TT 104 [sub y 1 7] g fun out g' => Outc (fun x => Qf (.panic x) g') (fun v => ∃ n, v = Val.d (.int .i64 n) ∧ L47_17 n (fld y 0) ((elsOf (fld y 0)).length : Int) 0 g' Qf) out) : L47_4 d1 ((elsOf d1).length : Int) 0 y g Qf := by
  have ed := hd.els undDecls
  have edl := ed.1.1
  refine loopUp (len := (elsOf d1).length) (fun i => ((((elsOf d1).drop i).map absDc).any badDc = true → Qf (.val (.d (.int .i64 3))) g) → ((((elsOf d1).drop i).map absDc).any badDc = false → EvF TT 104 [sub y 1 7] g fun out g' => Outc (fun x => Qf (.panic x) g') (fun v => ∃ n, v = Val.d (.int .i64 n) ∧ L47_17 n (fld y 0) ((elsOf (fld y 0)).length : Int) 0 g' Qf) out) → L47_4 d1 ((elsOf d1).length : Int) (i : Int) y g Qf) ?_ ?_ 0 (Nat.zero_le _) hT hF
  · intro hT hF
    refine w47_4 ?_
    rw [Br_ge]
    exact hF (by rw [List.drop_length]; rfl)
  · intro i hi ih hT hF
    refine w47_4 ?_
    rw [Br_lt hi, getE_nat hi]
    rw [drop_map_cons hi, List.any_cons] at hT hF
    obtain ⟨s2, a2, b2, p2, e2, _, ha2, hb2⟩ := decl_ty (ed.2 _ (List.getElem_mem hi))
    have eb := hb2.els undCons
    have ebl := eb.1.1
    have hbad : badDc (absDc (elsOf d1)[i]) = (gtI 4 ((elsOf a2).length : Int) || (gtI 32 ((elsOf b2).length : Int) || ((elsOf b2).map absCn).any badCn)) := by
      rw [e2]
      unfold badDc
      rw [absDc_ps, absDc_cs, List.length_map, List.length_map]
      rfl
    rw [hbad] at hT hF
    rw [e2]
    refine ⟨inB hi, Br_iff.2 ⟨fun q => hT (by rw [show gtI 4 ((elsOf a2).length : Int) = true from q]; rfl), fun q => Br_iff.2 ⟨fun q' => hT (by rw [show gtI 32 ((elsOf b2).length : Int) = true from q']; simp), fun q' => ?_⟩⟩⟩
    rw [show gtI 4 ((elsOf a2).length : Int) = false from q, show gtI 32 ((elsOf b2).length : Int) = false from q'] at hT hF
    simp only [Bool.false_or] at hT hF
    have hf : fld (Dat.agg [.str s2, a2, b2, .int .i64 p2]) 2 = b2 := rfl
    rw [hf]
    refine loopUp (len := (elsOf b2).length) (fun j => (((((elsOf b2).drop j).map absCn).any badCn || (((elsOf d1).drop (i + 1)).map absDc).any badDc) = true → Qf (.val (.d (.int .i64 3))) g) → (((((elsOf b2).drop j).map absCn).any badCn || (((elsOf d1).drop (i + 1)).map absDc).any badDc) = false → EvF TT 104 [sub y 1 7] g fun out g' => Outc (fun x => Qf (.panic x) g') (fun v => ∃ n, v = Val.d (.int .i64 n) ∧ L47_17 n (fld y 0) ((elsOf (fld y 0)).length : Int) 0 g' Qf) out) → L47_9 d1 ((elsOf d1).length : Int) (i : Int) b2 ((elsOf b2).length : Int) (j : Int) y g Qf) ?_ ?_ 0 (Nat.zero_le _) hT hF
    · intro hT hF
      refine w47_9 ?_
      rw [Br_ge, wrap_nat (by omega)]
      rw [List.drop_length] at hT hF
      exact ih (fun h => hT (by rw [h]; rfl)) (fun h => hF (by rw [h]; rfl))
    · intro j hj ihj hT hF
      refine w47_9 ?_
      rw [Br_lt hj, getE_nat hj]
      rw [drop_map_cons hj, List.any_cons, Bool.or_assoc] at hT hF
      have hc : badCn (absCn (elsOf b2)[j]) = gtI 8 ((elsOf (fld (elsOf b2)[j] 1)).length : Int) := by
        unfold badCn
        rw [absCn_len]
      rw [hc] at hT hF
      refine ⟨inB hj, Br_iff.2 ⟨fun q => hT (by rw [show gtI 8 ((elsOf (fld (elsOf b2)[j] 1)).length : Int) = true from q]; rfl), fun q => ?_⟩⟩
      rw [show gtI 8 ((elsOf (fld (elsOf b2)[j] 1)).length : Int) = false from q] at hT hF
      simp only [Bool.false_or] at hT hF
      rw [wrap_nat (by omega)]
      exact ihj hT hF
theorem limited_ok {x : Dat} (hx : HasTy TT 29 x) (hp : Pre (absPg x)) (hQ : Qf (.val (.d (.int .i64 (limF (nwEx (absPg x).e) (absPg x))))) g) : EvF TT 47 [x] g Qf := by
  refine w47 hx ?_
  unfold limF at hQ
  have hpd := hp.ds
  have hpe := hp.dp
  obtain ⟨d1, k1, s1, r1, n1, a1, b1, p1, rfl, hd1, he1⟩ := prog_ty hx
  have e0 : (absPg (.agg [d1, .int .i64 k1, .str s1, .str r1, .int .i64 n1, a1, b1, .int .i64 p1])).ds = (elsOf d1).map absDc := rfl
  have e1 : (absPg (.agg [d1, .int .i64 k1, .str s1, .str r1, .int .i64 n1, a1, b1, .int .i64 p1])).e = absEx (.agg [.int .i64 k1, .str s1, .str r1, .int .i64 n1, a1, b1, .int .i64 p1]) := rfl
  rw [e0] at hpd
  have hdd : dpDcs ((elsOf d1).map absDc) ≤ 20000 := by
    have : ∀ l : List Dc, (∀ d ∈ l, ∀ c ∈ d.cs, ∀ t ∈ c.fs, dpTy t ≤ 20000) → dpDcs l ≤ 20000 := by
      intro l
      induction l with
      | nil => intro _; exact Nat.zero_le _
      | cons d l ih =>
        intro h
        have h1 := dpCns_le (h d List.mem_cons_self)
        have h2 := ih fun d hd => h d (List.mem_cons_of_mem _ hd)
        simp only [dpDcs]
        omega
    exact this _ fun d hd c hc t ht => ((hpd d hd).2 c hc t ht).2.1
  rw [e0, List.length_map] at hQ
  refine Br_iff.2 ⟨fun q => ?_, fun q => parseSize_ok _ g hx _ ⟨_, rfl, Br_iff.2 ⟨fun q' => ?_, fun q' => narrow_ok _ _ g (Nat.lt_succ_self _) he1 _ ⟨_, rfl, Br_iff.2 ⟨fun q2 => ?_, fun q2 => ?_⟩⟩⟩⟩⟩
  · rw [show gtI 32 ((elsOf d1).length : Int) = true from q] at hQ
    exact hQ
  · rw [show gtI 2048 _ = true from q'] at hQ
    simpa using hQ
  · rw [e1, show nwEx _ = false by simpa using q2] at hQ
    simpa using hQ
  · rw [show gtI 32 ((elsOf d1).length : Int) = false from q, show gtI 2048 _ = false from q', e1, show nwEx _ = true by simpa using q2] at hQ
    simp only [Bool.not_true, Bool.or_false, cond_false] at hQ
    refine limBad hd1 (fun h => ?_) (fun h => deep_ok _ _ g (Nat.lt_succ_self _) he1 hpe _ ⟨_, rfl, limDeep hd1 _ hpe hdd ?_⟩)
    · rw [show ((elsOf d1).map absDc).any badDc = true from h] at hQ; exact hQ
    · rw [show ((elsOf d1).map absDc).any badDc = false from h] at hQ; exact hQ
end
end Go.Proofs.YtgmapdcdmomioaaGreatDoor.Pa
namespace Go.Proofs.YtgmapdcdmomioaaGreatDoor.Pa
open Go Go.Proofs.YtgmapdcdmomioaaGreatDoor.Am
section
variable {g : Glob} {Qf : Out → Glob → Prop}
end
end Go.Proofs.YtgmapdcdmomioaaGreatDoor.Pa
namespace Go.Proofs.YtgmapdcdmomioaaGreatDoor.Pa
open Go Go.Proofs.YtgmapdcdmomioaaGreatDoor.Am
end Go.Proofs.YtgmapdcdmomioaaGreatDoor.Pa
namespace Go.Proofs.YtgmapdcdmomioaaGreatDoor.Pa
open Go Go.Proofs.YtgmapdcdmomioaaGreatDoor.Am
section
variable {g : Glob} {Qf : Out → Glob → Prop}
end
end Go.Proofs.YtgmapdcdmomioaaGreatDoor.Pa
