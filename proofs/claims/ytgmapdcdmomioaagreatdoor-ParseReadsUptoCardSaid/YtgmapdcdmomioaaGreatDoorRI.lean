/- Limits of programs, and which may have been read: the program's tests, the document's. Limits as the document has them; which declared types and programs may be. What functions of the program do, printed by wip/tools/sx/sx.py. The document's Check told; the law ParseChecks answers true. -/
import Derived.Test.YtgmapdcdmomioaaGreatDoorRH
import Derived.Test.YtgmapdcdmomioaaGreatDoorRD
set_option linter.all false
set_option autoImplicit false
set_option maxRecDepth 100000
namespace Go.Proofs.YtgmapdcdmomioaaGreatDoor.Pa
open Go Go.Proofs.YtgmapdcdmomioaaGreatDoor.Am
def gtI (m n : Int) : Bool := decide (m < n)
def badCn (c : Cn) : Bool := gtI 8 c.fs.length
def badDc (d : Dc) : Bool := gtI 4 d.ps.length || (gtI 32 d.cs.length || d.cs.any badCn)
def dpCns : List Cn → Nat
 | [] => 0
 | c :: l => max (dpTys c.fs) (dpCns l)
def dpDcs : List Dc → Nat
 | [] => 0
 | d :: l => max (dpCns d.cs) (dpDcs l)
def limF (nw : Bool) (P : Pg) : Int :=
 bif gtI 32 P.ds.length || (gtI 2048 (upto 0 (szEx P.e)) || !nw) then 3 else bif P.ds.any badDc then 3 else bif gtI 256 ((max (dpEx P.e) (dpDcs P.ds) : Nat) : Int) then 4 else 0
structure Pre (P : Pg) : Prop where
 ds : ∀ d ∈ P.ds, (∀ s ∈ d.ps, s.length < 2 ^ 40) ∧ ∀ c ∈ d.cs, ∀ t ∈ c.fs, ndTy t ≤ 20000 ∧ dpTy t ≤ 20000 ∧ vrTy t = true
 sz : szEx P.e ≤ 20000
 dp : dpEx P.e ≤ 20000
theorem absCn_fs (x : Dat) : (absCn x).fs = (elO (fld x 1)).map aT := absTyA_map _
theorem absCn_len (x : Dat) : (absCn x).fs.length = (elO (fld x 1)).length := by rw [absCn_fs, List.length_map]
theorem absDc_cs (x : Dat) : (abD x).cs = (elO (fld x 2)).map absCn := rfl
theorem absDc_ps (x : Dat) : (abD x).ps = (elO (fld x 1)).map strOf := rfl
theorem dpTys_le {l : List Ty} {n : Nat} (h : ∀ t ∈ l, dpTy t ≤ n) : dpTys l ≤ n := by induction l with
 | nil => exact Nat.zero_le _
 | cons t l ih =>
  have h1 := h t List.mem_cons_self
  have h2 := ih fun t ht => h t (List.mem_cons_of_mem _ ht)
  simp only [dpTys]
  omega
theorem dpCns_le {l : List Cn} {n : Nat} (h : ∀ c ∈ l, ∀ t ∈ c.fs, dpTy t ≤ n) : dpCns l ≤ n := by induction l with
 | nil => exact Nat.zero_le _
 | cons c l ih =>
  have h1 := dpTys_le (h c List.mem_cons_self)
  have h2 := ih fun t ht => h t (List.mem_cons_of_mem _ ht)
  simp only [dpCns]
  omega
theorem drop_map_cons {α β : Type} {f : α → β} {xs : List α} {i : Nat} (hi : i < xs.length) : (xs.drop i).map f = f xs[i] :: (xs.drop (i + 1)).map f := by
 rw [List.drop_eq_getElem_cons hi, List.map_cons]
section
variable {g : Glob} {Qf : Out → Glob → Prop}
theorem limTypes {f1 : Dat} (hf : Ha TT 89 f1) {x63 x70 : Dat} {n64 n65 n71 n72 : Int} : ∀ m : Nat, m ≤ 20000 → dpTys ((elO f1).map aT) ≤ 20000 → L47_20 ((max m (dpTys ((elO f1).map aT)) : Nat) : Int) x63 n64 n65 x70 n71 (IntKind.i64.wrap (n72 + 1)) g Qf → L47_23 (m : Int) x63 n64 n65 x70 n71 n72 f1 ((elO f1).length : Int) 0 g Qf := by
 have ef := hf.els undTypes
 have efl := ef.1.1
 intro m hm hd hQ
 refine lU (len := (elO f1).length) (fun i => ∀ m : Nat, m ≤ 20000 → dpTys (((elO f1).drop i).map aT) ≤ 20000 → L47_20 ((max m (dpTys (((elO f1).drop i).map aT)) : Nat) : Int) x63 n64 n65 x70 n71 (IntKind.i64.wrap (n72 + 1)) g Qf → L47_23 (m : Int) x63 n64 n65 x70 n71 n72 f1 ((elO f1).length : Int) (i : Int) g Qf) ?_ ?_ 0 (Nat.zero_le _) m hm hd hQ
 ·intro m hm hd hQ
  refine w47_23 ?_
  rw [Br_ge]
  rw [List.drop_length] at hQ
  simpa [dpTys] using hQ
 ·intro i hi ih m hm hd hQ
  refine w47_23 ?_
  rw [Br_lt hi, geE hi]
  rw [dpTys_drop hi] at hd hQ
  refine ⟨inB hi, typeDeep_ok _ _ g (Nat.lt_succ_self _) (ef.2 _ (List.getElem_mem hi)) (by omega) _ ⟨_, rfl, ?_⟩⟩
  rw [wra (by omega), maxS_nat]
  exact ih _ (by omega) (by omega) (by rw [Nat.max_assoc]; exact hQ)
theorem limCons {b1 : Dat} (hb : Ha TT 74 b1) {x63 : Dat} {n64 n65 : Int} : ∀ m : Nat, m ≤ 20000 → dpCns ((elO b1).map absCn) ≤ 20000 → L47_17 ((max m (dpCns ((elO b1).map absCn)) : Nat) : Int) x63 n64 (IntKind.i64.wrap (n65 + 1)) g Qf → L47_20 (m : Int) x63 n64 n65 b1 ((elO b1).length : Int) 0 g Qf := by
 have eb := hb.els undCons
 have ebl := eb.1.1
 intro m hm hd hQ
 refine lU (len := (elO b1).length) (fun i => ∀ m : Nat, m ≤ 20000 → dpCns (((elO b1).drop i).map absCn) ≤ 20000 → L47_17 ((max m (dpCns (((elO b1).drop i).map absCn)) : Nat) : Int) x63 n64 (IntKind.i64.wrap (n65 + 1)) g Qf → L47_20 (m : Int) x63 n64 n65 b1 ((elO b1).length : Int) (i : Int) g Qf) ?_ ?_ 0 (Nat.zero_le _) m hm hd hQ
 ·intro m hm hd hQ
  refine w47_20 ?_
  rw [Br_ge]
  rw [List.drop_length] at hQ
  simpa [dpCns] using hQ
 ·intro i hi ih m hm hd hQ
  refine w47_20 ?_
  rw [Br_lt hi, geE hi]
  rw [drop_map_cons hi, dpCns, absCn_fs] at hd hQ
  obtain ⟨s2, f1, e2, _, hf1⟩ := con_ty (eb.2 _ (List.getElem_mem hi))
  rw [e2] at hd hQ ⊢
  have hf : fld (Dat.agg [.str s2, f1]) 1 = f1 := rfl
  rw [hf] at hd hQ ⊢
  refine ⟨inB hi, limTypes hf1 m hm (by omega) ?_⟩
  rw [wra (by omega)]
  exact ih _ (by omega) (by omega) (by rw [Nat.max_assoc]; exact hQ)
theorem limDeep {d1 : Dat} (hd : Ha TT 23 d1) : ∀ m : Nat, m ≤ 20000 → dpDcs ((elO d1).map abD) ≤ 20000 → Qf (.val (.d (.int .i64 (bif gtI 256 ((max m (dpDcs ((elO d1).map abD)) : Nat) : Int) then 4 else 0)))) g → L47_17 (m : Int) d1 ((elO d1).length : Int) 0 g Qf := by
 have ed := hd.els undDecls
 have edl := ed.1.1
 intro m hm hdp hQ
 refine lU (len := (elO d1).length) (fun i => ∀ m : Nat, m ≤ 20000 → dpDcs (((elO d1).drop i).map abD) ≤ 20000 → Qf (.val (.d (.int .i64 (bif gtI 256 ((max m (dpDcs (((elO d1).drop i).map abD)) : Nat) : Int) then 4 else 0)))) g → L47_17 (m : Int) d1 ((elO d1).length : Int) (i : Int) g Qf) ?_ ?_ 0 (Nat.zero_le _) m hm hdp hQ
 ·intro m hm hdp hQ
  refine w47_17 ?_
  rw [Br_ge]
  rw [List.drop_length] at hQ
  simp only [List.map_nil, dpDcs, Nat.max_zero] at hQ
  refine Bi.2 ⟨fun q => ?_, fun q => ?_⟩
  ·rw [show gtI 256 _ = true from q] at hQ; exact hQ
  ·rw [show gtI 256 _ = false from q] at hQ; exact hQ
 ·intro i hi ih m hm hdp hQ
  refine w47_17 ?_
  rw [Br_lt hi, geE hi]
  rw [drop_map_cons hi, dpDcs, absDc_cs] at hdp hQ
  obtain ⟨s2, a2, b2, p2, e2, _, ha2, hb2⟩ := decl_ty (ed.2 _ (List.getElem_mem hi))
  rw [e2] at hdp hQ ⊢
  have hf : fld (Dat.agg [.str s2, a2, b2, .int .i64 p2]) 2 = b2 := rfl
  rw [hf] at hdp hQ ⊢
  refine ⟨inB hi, limCons hb2 m hm (by omega) ?_⟩
  rw [wra (by omega)]
  exact ih _ (by omega) (by omega) (by rw [Nat.max_assoc]; exact hQ)
theorem limBad {d1 y : Dat} (hd : Ha TT 23 d1) (hT : (((elO d1).map abD).any badDc = true) → Qf (.val (.d (.int .i64 3))) g) (hF : (((elO d1).map abD).any badDc = false) → EvF TT 104 [sub y 1 7] g fun out g' => Ou (fun x => Qf (.panic x) g') (fun v => ∃ n, v = Val.d (.int .i64 n) ∧ L47_17 n (fld y 0) ((elO (fld y 0)).length : Int) 0 g' Qf) out) : L47_4 d1 ((elO d1).length : Int) 0 y g Qf := by
 have ed := hd.els undDecls
 have edl := ed.1.1
 refine lU (len := (elO d1).length) (fun i => ((((elO d1).drop i).map abD).any badDc = true → Qf (.val (.d (.int .i64 3))) g) → ((((elO d1).drop i).map abD).any badDc = false → EvF TT 104 [sub y 1 7] g fun out g' => Ou (fun x => Qf (.panic x) g') (fun v => ∃ n, v = Val.d (.int .i64 n) ∧ L47_17 n (fld y 0) ((elO (fld y 0)).length : Int) 0 g' Qf) out) → L47_4 d1 ((elO d1).length : Int) (i : Int) y g Qf) ?_ ?_ 0 (Nat.zero_le _) hT hF
 ·intro hT hF
  refine w47_4 ?_
  rw [Br_ge]
  exact hF (by rw [List.drop_length]; rfl)
 ·intro i hi ih hT hF
  refine w47_4 ?_
  rw [Br_lt hi, geE hi]
  rw [drop_map_cons hi, List.any_cons] at hT hF
  obtain ⟨s2, a2, b2, p2, e2, _, ha2, hb2⟩ := decl_ty (ed.2 _ (List.getElem_mem hi))
  have eb := hb2.els undCons
  have ebl := eb.1.1
  have hbad : badDc (abD (elO d1)[i]) = (gtI 4 ((elO a2).length : Int) || (gtI 32 ((elO b2).length : Int) || ((elO b2).map absCn).any badCn)) := by
   rw [e2]
   unfold badDc
   rw [absDc_ps, absDc_cs, List.length_map, List.length_map]
   rfl
  rw [hbad] at hT hF
  rw [e2]
  refine ⟨inB hi, Bi.2 ⟨fun q => hT (by rw [show gtI 4 ((elO a2).length : Int) = true from q]; rfl), fun q => Bi.2 ⟨fun q' => hT (by rw [show gtI 32 ((elO b2).length : Int) = true from q']; simp), fun q' => ?_⟩⟩⟩
  rw [show gtI 4 ((elO a2).length : Int) = false from q, show gtI 32 ((elO b2).length : Int) = false from q'] at hT hF
  simp only [Bool.false_or] at hT hF
  have hf : fld (Dat.agg [.str s2, a2, b2, .int .i64 p2]) 2 = b2 := rfl
  rw [hf]
  refine lU (len := (elO b2).length) (fun j => (((((elO b2).drop j).map absCn).any badCn || (((elO d1).drop (i + 1)).map abD).any badDc) = true → Qf (.val (.d (.int .i64 3))) g) → (((((elO b2).drop j).map absCn).any badCn || (((elO d1).drop (i + 1)).map abD).any badDc) = false → EvF TT 104 [sub y 1 7] g fun out g' => Ou (fun x => Qf (.panic x) g') (fun v => ∃ n, v = Val.d (.int .i64 n) ∧ L47_17 n (fld y 0) ((elO (fld y 0)).length : Int) 0 g' Qf) out) → L47_9 d1 ((elO d1).length : Int) (i : Int) b2 ((elO b2).length : Int) (j : Int) y g Qf) ?_ ?_ 0 (Nat.zero_le _) hT hF
  ·intro hT hF
   refine w47_9 ?_
   rw [Br_ge, wra (by omega)]
   rw [List.drop_length] at hT hF
   exact ih (fun h => hT (by rw [h]; rfl)) (fun h => hF (by rw [h]; rfl))
  ·intro j hj ihj hT hF
   refine w47_9 ?_
   rw [Br_lt hj, geE hj]
   rw [drop_map_cons hj, List.any_cons, Bool.or_assoc] at hT hF
   have hc : badCn (absCn (elO b2)[j]) = gtI 8 ((elO (fld (elO b2)[j] 1)).length : Int) := by
    unfold badCn
    rw [absCn_len]
   rw [hc] at hT hF
   refine ⟨inB hj, Bi.2 ⟨fun q => hT (by rw [show gtI 8 ((elO (fld (elO b2)[j] 1)).length : Int) = true from q]; rfl), fun q => ?_⟩⟩
   rw [show gtI 8 ((elO (fld (elO b2)[j] 1)).length : Int) = false from q] at hT hF
   simp only [Bool.false_or] at hT hF
   rw [wra (by omega)]
   exact ihj hT hF
theorem limited_ok {x : Dat} (hx : Ha TT 29 x) (hp : Pre (absPg x)) (hQ : Qf (.val (.d (.int .i64 (limF (nwEx (absPg x).e) (absPg x))))) g) : EvF TT 47 [x] g Qf := by
 refine w47 hx ?_
 unfold limF at hQ
 have hpd := hp.ds
 have hpe := hp.dp
 obtain ⟨d1, k1, s1, r1, n1, a1, b1, p1, rfl, hd1, he1⟩ := prog_ty hx
 have e0 : (absPg (.agg [d1, .int .i64 k1, .str s1, .str r1, .int .i64 n1, a1, b1, .int .i64 p1])).ds = (elO d1).map abD := rfl
 have e1 : (absPg (.agg [d1, .int .i64 k1, .str s1, .str r1, .int .i64 n1, a1, b1, .int .i64 p1])).e = ax (.agg [.int .i64 k1, .str s1, .str r1, .int .i64 n1, a1, b1, .int .i64 p1]) := rfl
 rw [e0] at hpd
 have hdd : dpDcs ((elO d1).map abD) ≤ 20000 := by
  have : ∀ l : List Dc, (∀ d ∈ l, ∀ c ∈ d.cs, ∀ t ∈ c.fs, dpTy t ≤ 20000) → dpDcs l ≤ 20000 := by
   intro l
   induction l with
   | nil => intro _; exact Nat.zero_le _
   | cons d l ih =>
    intro h
    have h1 := dpCns_le (h d List.mem_cons_self)
    have h2 := ih fun d hd => h d (List.mem_cons_of_mem _ hd)
    simp only [dpDcs]
    omega
  exact this _ fun d hd c hc t ht => ((hpd d hd).2 c hc t ht).2.1
 rw [e0, List.length_map] at hQ
 refine Bi.2 ⟨fun q => ?_, fun q => parseSize_ok _ g hx _ ⟨_, rfl, Bi.2 ⟨fun q' => ?_, fun q' => narrow_ok _ _ g (Nat.lt_succ_self _) he1 _ ⟨_, rfl, Bi.2 ⟨fun q2 => ?_, fun q2 => ?_⟩⟩⟩⟩⟩
 ·rw [show gtI 32 ((elO d1).length : Int) = true from q] at hQ
  exact hQ
 ·rw [show gtI 2048 _ = true from q'] at hQ
  simpa using hQ
 ·rw [e1, show nwEx _ = false by simpa using q2] at hQ
  simpa using hQ
 ·rw [show gtI 32 ((elO d1).length : Int) = false from q, show gtI 2048 _ = false from q', e1, show nwEx _ = true by simpa using q2] at hQ
  simp only [Bool.not_true, Bool.or_false, cond_false] at hQ
  refine limBad hd1 (fun h => ?_) (fun h => deep_ok _ _ g (Nat.lt_succ_self _) he1 hpe _ ⟨_, rfl, limDeep hd1 _ hpe hdd ?_⟩)
  ·rw [show ((elO d1).map abD).any badDc = true from h] at hQ; exact hQ
  ·rw [show ((elO d1).map abD).any badDc = false from h] at hQ; exact hQ
end
end Go.Proofs.YtgmapdcdmomioaaGreatDoor.Pa
namespace Go.Proofs.YtgmapdcdmomioaaGreatDoor.Pa
open Go Go.Proofs.YtgmapdcdmomioaaGreatDoor.Am
def g256 (n : Nat) : Bool := decide (256 < n)
theorem g256_max (a b : Nat) : g256 (max a b) = (g256 a || g256 b) := by
 unfold g256
 rw [Bool.eq_iff_iff]
 simp only [Bool.or_eq_true, decide_eq_true_eq]
 omega
theorem gtI_256 (n : Nat) : gtI 256 (n : Int) = g256 n := by
 unfold gtI g256
 exact decide_eq_decide.2 (by omega)
section
variable {g : Glob} {Qf : Out → Glob → Prop}
def lim3 (bad deep : Bool) : Int := bif bad then 3 else bif deep then 4 else 0
theorem rlimTypes {y5 y1 c1 f1 : Dat} {q n4 : Nat} (hq : q < (elO (fld y5 2)).length) (hc : (elO (fld y5 2))[q] = c1) (hf1 : fld c1 1 = f1) (hf : Ha TT 89 f1) (b : Bool) (h : L52_11 (b || g256 (dpTys ((elO f1).map aT))) (n4 : Int) (IntKind.i64.wrap ((q : Int) + 1)) y5 y1 g Qf) :
  L52_16 b (n4 : Int) (q : Int) 0 y5 y1 g Qf := by
 have ef := hf.els undTypes
 have efl := ef.1.1
 refine lU (len := (elO f1).length) (fun i => ∀ b : Bool, L52_11 (b || g256 (dpTys (((elO f1).drop i).map aT))) (n4 : Int) (IntKind.i64.wrap ((q : Int) + 1)) y5 y1 g Qf → L52_16 b (n4 : Int) (q : Int) (i : Int) y5 y1 g Qf) ?_ ?_ 0 (Nat.zero_le _) b h
 ·intro b h
  refine w52_16 ⟨inB hq, ?_⟩
  rw [geE hq, hc, hf1, Br_ge]
  rw [List.drop_length] at h
  rw [show (b || g256 (dpTys (([] : List Dat).map aT))) = b by cases b <;> rfl] at h
  exact h
 ·intro i hi ih b h
  refine w52_16 ⟨inB hq, ?_⟩
  rw [geE hq, hc, hf1, Br_lt hi]
  rw [dpTys_drop hi, g256_max, ← Bool.or_assoc] at h
  cases b with
  | true =>
   rw [wra (by omega)]
   exact ih true (by simpa using h)
  | false =>
   refine ⟨inB hq, inB hi, ?_⟩
   rw [geE hi]
   refine deepType_ok _ _ g 256 (Nat.lt_succ_self _) (ef.2 _ (List.getElem_mem hi)) (by omega) _ ⟨_, rfl, ?_⟩
   rw [wra (by omega)]
   exact ih _ h
theorem limits_ok {x : Dat} (hx : Ha TT 29 x) (hQ : Qf (.val (.d (.int .i64 (limF (!flEx (absPg x).e) (absPg x))))) g) : EvF TT 52 [x] g Qf := by
 refine w52 hx ?_
 unfold limF at hQ
 obtain ⟨d1, k1, s1, r1, n1, a1, b1, p1, rfl, hd1, he1⟩ := prog_ty hx
 have e0 : (absPg (.agg [d1, .int .i64 k1, .str s1, .str r1, .int .i64 n1, a1, b1, .int .i64 p1])).ds = (elO d1).map abD := rfl
 have e1 : (absPg (.agg [d1, .int .i64 k1, .str s1, .str r1, .int .i64 n1, a1, b1, .int .i64 p1])).e = ax (.agg [.int .i64 k1, .str s1, .str r1, .int .i64 n1, a1, b1, .int .i64 p1]) := rfl
 rw [e0, List.length_map, gtI_256, Bool.not_not] at hQ
 refine Bi.2 ⟨fun q => ?_, fun q => refSize_ok _ g hx _ ⟨_, rfl, Bi.2 ⟨fun q' => ?_, fun q' => fullExpr_ok _ _ g (Nat.lt_succ_self _) he1 _ ⟨_, rfl, Bi.2 ⟨fun q2 => ?_, fun q2 => deepExpr_ok _ _ g 256 (Nat.lt_succ_self _) he1 (by omega) _ ⟨_, rfl, ?_⟩⟩⟩⟩⟩⟩
 ·rw [show gtI 32 ((elO d1).length : Int) = true from q] at hQ
  exact hQ
 ·rw [show gtI 2048 _ = true from q'] at hQ
  simpa using hQ
 ·rw [e1, q2] at hQ
  simpa using hQ
 ·rw [show gtI 32 ((elO d1).length : Int) = false from q, show gtI 2048 _ = false from q', e1, q2] at hQ
  simp only [Bool.or_false, cond_false] at hQ
  have ed := hd1.els undDecls
  have edl := ed.1.1
  have hQ : Qf (.val (.d (.int .i64 (lim3 (((elO d1).map abD).any badDc) (decide (256 < dpEx (ax (.agg [.int .i64 k1, .str s1, .str r1, .int .i64 n1, a1, b1, .int .i64 p1]))) || g256 (dpDcs ((elO d1).map abD))))))) g := qint hQ (by
   rw [g256_max]
   rfl)
  have h0 : fld (.agg [d1, .int .i64 k1, .str s1, .str r1, .int .i64 n1, a1, b1, .int .i64 p1]) 0 = d1 := rfl
  generalize decide (256 < dpEx (ax (.agg [.int .i64 k1, .str s1, .str r1, .int .i64 n1, a1, b1, .int .i64 p1]))) = b at hQ
  generalize hY : Dat.agg [d1, .int .i64 k1, .str s1, .str r1, .int .i64 n1, a1, b1, .int .i64 p1] = Y at h0
  clear hY
  refine lU (len := (elO d1).length) (fun i => ∀ b : Bool, Qf (.val (.d (.int .i64 (lim3 ((((elO d1).drop i).map abD).any badDc) (b || g256 (dpDcs (((elO d1).drop i).map abD))))))) g → L52_5 b (i : Int) Y g Qf) ?_ ?_ 0 (Nat.zero_le _) b hQ
  ·intro b hQ
   refine w52_5 ?_
   rw [h0, Br_ge]
   rw [List.drop_length] at hQ
   cases b
   ·exact hQ
   ·exact hQ
  ·intro i hi ih b hQ
   refine w52_5 ?_
   rw [h0, Br_lt hi, geE hi]
   rw [drop_map_cons hi, List.any_cons, dpDcs, absDc_cs, g256_max] at hQ
   have ht := ed.2 _ (List.getElem_mem hi)
   obtain ⟨s2, a2, b2, p2, e2, _, ha2, hb2⟩ := decl_ty ht
   have eb := hb2.els undCons
   have ebl := eb.1.1
   have hbad : badDc (abD (elO d1)[i]) = (gtI 4 ((elO a2).length : Int) || (gtI 32 ((elO b2).length : Int) || ((elO b2).map absCn).any badCn)) := by
    rw [e2]
    unfold badDc
    rw [absDc_ps, absDc_cs, List.length_map, List.length_map]
    rfl
   rw [hbad] at hQ
   rw [e2] at hQ ⊢
   have hf : fld (Dat.agg [.str s2, a2, b2, .int .i64 p2]) 2 = b2 := rfl
   have hf' : fld (Dat.agg [.str s2, a2, b2, .int .i64 p2]) 1 = a2 := rfl
   rw [hf] at hQ
   rw [hf, hf']
   generalize Dat.agg [.str s2, a2, b2, .int .i64 p2] = D at hf
   refine ⟨inB hi, Bi.2 ⟨fun q => ?_, fun q => Bi.2 ⟨fun q' => ?_, fun q' => ?_⟩⟩⟩
   ·rw [show gtI 4 ((elO a2).length : Int) = true from q] at hQ; exact hQ
   ·rw [show gtI 32 ((elO b2).length : Int) = true from q'] at hQ
    exact qint hQ (by simp [lim3])
   ·rw [show gtI 4 ((elO a2).length : Int) = false from q, show gtI 32 ((elO b2).length : Int) = false from q'] at hQ
    simp only [Bool.false_or] at hQ
    refine lU (len := (elO b2).length) (fun j => ∀ b : Bool, Qf (.val (.d (.int .i64 (lim3 ((((elO b2).drop j).map absCn).any badCn || (((elO d1).drop (i + 1)).map abD).any badDc) (b || (g256 (dpCns (((elO b2).drop j).map absCn)) || g256 (dpDcs (((elO d1).drop (i + 1)).map abD)))))))) g → L52_11 b (i : Int) (j : Int) D Y g Qf) ?_ ?_ 0 (Nat.zero_le _) b hQ
    ·intro b hQ
     refine w52_11 ?_
     rw [hf, Br_ge, wra (by omega)]
     rw [List.drop_length] at hQ
     exact ih b hQ
    ·intro j hj ihj b hQ
     have hj' : j < (elO (fld D 2)).length := by rw [hf]; exact hj
     refine w52_11 ?_
     rw [Br_lt hj', geE hj']
     rw [drop_map_cons hj, List.any_cons, dpCns, absCn_fs, g256_max] at hQ
     have hcj : (elO (fld D 2))[j] = (elO b2)[j] := by simp only [hf]
     rw [hcj]
     obtain ⟨s3, f1, e3, _, hf1⟩ := con_ty (eb.2 _ (List.getElem_mem hj))
     have hc : badCn (absCn (elO b2)[j]) = gtI 8 ((elO f1).length : Int) := by
      unfold badCn
      rw [absCn_len, e3]
      rfl
     rw [hc] at hQ
     rw [e3] at hQ hcj ⊢
     have hf2 : fld (Dat.agg [.str s3, f1]) 1 = f1 := rfl
     rw [hf2] at hQ
     rw [hf2]
     refine ⟨inB hj', Bi.2 ⟨fun q => ?_, fun q => ?_⟩⟩
     ·rw [show gtI 8 ((elO f1).length : Int) = true from q] at hQ; exact hQ
     ·rw [show gtI 8 ((elO f1).length : Int) = false from q] at hQ
      simp only [Bool.false_or] at hQ
      refine rlimTypes hj' hcj hf2 hf1 b ?_
      rw [wra (by omega)]
      refine ihj _ (qint hQ ?_)
      rw [Bool.or_assoc b, Bool.or_assoc]
end
end Go.Proofs.YtgmapdcdmomioaaGreatDoor.Pa
namespace Go.Proofs.YtgmapdcdmomioaaGreatDoor.Pa
open Go Go.Proofs.YtgmapdcdmomioaaGreatDoor.Am
end Go.Proofs.YtgmapdcdmomioaaGreatDoor.Pa
namespace Go.Proofs.YtgmapdcdmomioaaGreatDoor.Pa
open Go Go.Proofs.YtgmapdcdmomioaaGreatDoor.Am
section
variable {g : Glob} {Qf : Out → Glob → Prop}
end
end Go.Proofs.YtgmapdcdmomioaaGreatDoor.Pa
