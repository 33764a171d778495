/- The document's parser: whole expressions. The document's parser: declarations, programs. -/
import Derived.Test.YtgmapdcdmomioaaGreatDoorRO
set_option linter.all false
set_option autoImplicit false
set_option maxRecDepth 100000
namespace Go.Proofs.YtgmapdcdmomioaaGreatDoor.Pa
open Go Go.Proofs.YtgmapdcdmomioaaGreatDoor.Am
variable {V : Env} {g g0 g1 : Glob} {r : List Pk} {Qf Qi : Out → Glob → Prop} {α β γ : Type} {f : Option Int} {p : Int}
theorem Nx.le (h : Nx V g g1) : g.toks.length ≤ g1.toks.length := by
 obtain ⟨m, e⟩ := h.2
 rw [e, List.length_append]
 omega
theorem lift_ok {res : Res α} {v : α} {r1 : List Pk} (h : lift f res = .ok v r1) : f = none ∧ res = .ok v r1 := by
 cases f with
 | none => exact ⟨rfl, h⟩
 | some p => cases h
theorem RS.cons (h : RS V g f r) (hr : r ≠ []) : f = none := by
 cases f with
 | none => rfl
 | some p => exact absurd (h.2 p rfl).1 hr
theorem rx_br (hV : V.Ok) {n : Nat} (I : ExR V n) {g0 g : Glob} {r : List Pk} {y5 y4 : Dat} {Qf : Out → Glob → Prop} (hst : RS V g none r) (hn : Nx V g0 g) (hy : Ha TT 27 y5) (hl : Lv g0.toks.length g 7 (fld y5 4)) (hl5 : Lv g0.toks.length g 5 (fld y5 5)) (hlen : (elO (fld y5 4)).length + r.length ≤ 5000) (hlen5 : (elO (fld y5 5)).length + r.length ≤ 5000)
  (hQ : RF V ax 27 g0 (gBr V.en (n + 1) (ax y5) r) Qf) : L112_3 V.p y5 y4 g Qf := by
 rw [gBr] at hQ
 obtain ⟨k, s, u, m, a, b, p, rfl, hs, hu, ha, hb⟩ := ex_inv hy
 have hl : Lv g0.toks.length g 7 a := hl
 have hl5 : Lv g0.toks.length g 5 b := hl5
 have hlen : (elO a).length + r.length ≤ 5000 := hlen
 have hlen5 : (elO b).length + r.length ≤ 5000 := hlen5
 refine w112_3 (rgo hst ((ptR hV n).pat hst (hQ.call hn fun f1 r1 d g' ht hst' hn' hn'' he hQ1 => ⟨d, ht, rfl, fit20 (by decide) (by show (elO b).length + 1 ≤ _; omega), ?_⟩)))
 obtain ⟨d2, g2, e1, e2, ⟨k2, e3⟩, hl2, hn2, hbx, hL⟩ := papp0 (y := d) hn' (hl5.nx hn'')
 have hl7 := hL 7 a (by decide) (hl.nx hn'')
 refine ⟨d2, g2, e1, rmust hV (hst'.bx hbx) (k := 6) (s := sArrow) ks6 hQ1 hn2 fun f2 r2 g3 hst3 hn3 hn3' _ hf2 _ hQ2 => ⟨trivial, ?_⟩⟩
 rw [lift_bind] at hQ2
 refine I.ex' hV hst3 (hQ2.call hn3 fun f3 r4 d4 g4 ht4 hst4 hn4 hn4' he4 hQ4 => ⟨d4, ht4, rfl, fit20 (by decide) (by show (elO a).length + 1 ≤ _; omega), ?_⟩)
 obtain ⟨d5, g5, x1, x2, ⟨k5, x3⟩, hl6, hn5, hbx5, hL5⟩ := papp0 (y := d4) hn4 ((hl7.nx hn3').nx hn4')
 have hl8 := hL5 5 d2 (by decide) ((hl2.nx hn3').nx hn4')
 have ht2 : Ha TT 25 d2 := by
  rw [e3]
  exact snoc_pats (pt_els hb) ht (by omega)
 have ht5 : Ha TT 24 d5 := by
  rw [x3]
  exact snoc_exprs (ex_els ha) ht4 (by omega)
 have habs : ax (exD k s u m d5 d2 p) = exAdd (exPat (ax (exD k s u m a b p)) (aP d)) (ax d4) := by simp [exD, ax, abE, aA, e2, x2, exAdd, exPat]
 have hyt := eDt (k := k) (n := m) (p := p) hs hu ht5 ht2
 have hst5 := hst4.bx hbx5
 refine ⟨d5, g5, x1, rtake hV hst5 (k := 6) (s := sBar) ks6 (fun q g6 h1 h2 => ⟨_, rfl, Brn rfl ?_⟩) (fun q => ⟨_, rfl, Bo rfl ?_⟩)⟩
 ·have hf3 := hst5.cons (isK_ne (by decide) q)
  subst hf3
  obtain ⟨hf2', he4'⟩ := lift_ok (he4 rfl)
  obtain ⟨hf1, q1, rfl⟩ := hf2 hf2'
  have l0 := (gPt_len n).1 _ _ _ (he hf1)
  have l1 := tai (by decide) q1
  have l2 := (exLen n).ex he4'
  have l3 := tai (by decide) q
  simp only [lift] at hQ4
  rw [if_pos q, ← habs] at hQ4
  refine I.br (y5 := exD k s u m d5 d2 p) h1 (hn5.trans h2) hyt (hl6.nx h2) (hl8.nx h2) ?_ ?_ hQ4
  ·show (elO d5).length + _ ≤ _
   rw [x2, List.length_append, List.length_singleton]
   omega
  ·show (elO d2).length + _ ≤ _
   rw [e2, List.length_append, List.length_singleton]
   omega
 ·rw [if_neg (by rw [q]; simp)] at hQ4
  refine rmust hV hst5 (k := 5) (s := kEnd) ks5 hQ4 hn5 fun f6 r6 g6 hst6 hn6 _ _ _ _ hQ6 => ⟨trivial, ?_⟩
  exact hQ6.fin (d := exD k s u m d5 d2 p) (fun _ => habs) hyt hst6 hn6
theorem rx_branches (hV : V.Ok) {n : Nat} (I : ExR V n) {p : Int} (hst : RS V g none r) (hQ : RF V ax 27 g ((gEx V.en n r).bind fun a r => (need V.en 5 kOf r).bind fun _ r => gBr V.en n (.mk 7 [] [] 0 [a] [] p) r) Qf) :
  EvF TT 112 [.ptr (some (V.p, 0)), .int .i64 p] g Qf := by
 have hlen := hst.len hV
 refine w112 (I.ex hst (hQ.call .refl fun f1 r1 d g1 ht hst1 hn1 hn1' he hQ1 => ⟨d, ht, rfl, ?_⟩))
 refine rmust hV (hst1.tok (m := 7) (n := 1)) (k := 5) (s := kOf) ks5 hQ1 (hn1.trans .tok) fun f2 r2 g2 hst2 hn2 hn2' _ hf2 _ hQ2 => ⟨trivial, ?_⟩
 have hyt := eDt (k := 7) (n := 0) (p := p) (s := []) (u := []) (by decide) (by decide) (gone_exprs (k := g1.toks.length) ht) nia
 cases f2 with
 | some p' => exact rbrF hV hst2 hyt fun g' h1 h2 => hQ2 _ g' hyt h1 (hn2.trans h2)
 | none =>
  obtain ⟨hf1, q1, rfl⟩ := hf2 rfl
  have l0 := (exLen n).ex (he hf1)
  have l1 := tai (by decide) q1
  have hlv : Lv g.toks.length (gto g1 7 1) 7 (.gsl g1.toks.length 7 [d]) := .inr ⟨_, _, rfl, hn1.le, by simp [gto]⟩
  refine I.br (y5 := exD 7 [] [] 0 (.gsl g1.toks.length 7 [d]) .nil p) hst2 hn2 hyt (hlv.nx hn2') (.inl rfl) ?_ (by show 0 + _ ≤ _; omega) ?_
  ·show 1 + _ ≤ _
   omega
  ·simp only [lift] at hQ2
   rw [exD_abs, ai]
   simpa [absExA, absExL] using hQ2
theorem rletTail (hV : V.Ok) {n : Nat} (H : ∀ m, m < n + 1 → ExR V m) {k p : Int} {s u : Str} (hs : s.length ≤ 2 ^ 40) (hu : u.length ≤ 2 ^ 40) (hst : RS V g f r) (hn : Nx V g0 g) {F : Dat → Dat → Dat} (hF : ∀ d e, F d e = exD k s u 0 (.sl 7 [d, e]) .nil p)
  (hQ : RF V ax 27 g0 (lift f (gLet V.en n (.mk k s u 0 [] [] p) r)) Qf) :
  EvF TT 107 [Dat.ptr (some (V.p, 0)), Dat.str [61]] g fun out g' => Ou (fun x => Qf (Out.panic x) g') (fun v => Rt v [] ∧ EvF TT 50 [Dat.ptr (some (V.p, 0))] g' fun out g' => Ou (fun x => Qf (Out.panic x) g') (fun v => ∃ x_1, Ha TT 27 x_1 ∧ v = Val.d x_1 ∧ EvF TT 107 [Dat.ptr (some (V.p, 0)), Dat.str [105, 110]] g' fun out g' => Ou (fun x => Qf (Out.panic x) g') (fun v => Rt v [] ∧ EvF TT 50 [Dat.ptr (some (V.p, 0))] g' fun out g' => Ou (fun x => Qf (Out.panic x) g') (fun v => ∃ x_2, Ha TT 27 x_2 ∧ v = Val.d x_2 ∧ Qf (Out.val (Val.d (F x_1 x_2))) g') out) out) out) out := by
 obtain ⟨m, I, hQ⟩ : ∃ m, ExR V m ∧ RF V ax 27 g0 (lift f (gLet V.en (m + 1) (.mk k s u 0 [] [] p) r)) Qf := by
  cases n with
  | succ n => exact ⟨n, H n (by omega), hQ⟩
  | zero =>
   cases f with
   | none => simp [gLet, lift, RF] at hQ
   | some p => exact ⟨0, H 0 (by omega), hQ⟩
 rw [gLet] at hQ
 refine rmust hV hst (k := 6) (s := sEq) ks6 hQ hn fun f1 r1 g1 hst1 hn1 _ _ _ _ hQ1 => ⟨trivial, ?_⟩
 rw [lift_bind] at hQ1
 refine I.ex' hV hst1 (hQ1.call hn1 fun f2 r2 d g2 ht hst2 hn2 _ he2 hQ2 => ⟨d, ht, rfl, ?_⟩)
 refine rmust hV hst2 (k := 5) (s := kIn) ks5 hQ2 hn2 fun f3 r3 g3 hst3 hn3 _ _ _ _ hQ3 => ⟨trivial, ?_⟩
 rw [lift_bind] at hQ3
 refine I.ex' hV hst3 (hQ3.call hn3 fun f4 r4 d4 g4 ht4 hst4 hn4 _ he4 hQ4 => ⟨d4, ht4, rfl, ?_⟩)
 rw [hF]
 refine hQ4.fin (fun _ => ?_) (eDt hs hu (two_exprs ht ht4) nia) hst4 hn4
 rw [exD_abs, ai]
 simp [absExA, absExL, exAdd]
theorem rx_ex (hV : V.Ok) {n : Nat} (I : ExR V n) (H : ∀ m, m < n + 1 → ExR V m) {g : Glob} {r : List Pk} {Qf : Out → Glob → Prop} (hst : RS V g none r) (hQ : RF V ax 27 g (gEx V.en (n + 1) r) Qf) : EvF TT 50 [.ptr (some (V.p, 0))] g Qf := by
 rw [gEx] at hQ
 refine w50 (rtoken hV hst ⟨_, rhd_ty hV hst, rfl, rgo' hst (rtake hV hst (k := 5) (s := kFun) ks5 (fun q g1 h1 h2 => ⟨_, rfl, Bo rfl ?_⟩) (fun q => ⟨_, rfl, Brn rfl ?_⟩))⟩)
 ·rw [if_pos q] at hQ
  refine rword (f := none) hV h1 (by decide) hQ h2 fun f2 r2 s g2 hs hst2 hn2 _ _ hf2 hQ2 => ⟨_, hs, rfl, ?_⟩
  refine rmust hV hst2 (k := 6) (s := sArrow) ks6 hQ2 hn2 fun f3 r3 g3 hst3 hn3 _ _ _ _ hQ3 => ⟨trivial, ?_⟩
  rw [lift_bind] at hQ3
  refine I.ex' hV hst3 (hQ3.call hn3 fun f4 r4 d g4 ht hst4 hn4 _ he4 hQ4 => ⟨d, ht, rfl, ?_⟩)
  refine hQ4.fin (d := exD 3 s [] 0 (.sl 7 [d]) .nil (plK V.en r)) (fun _ => ?_) (eDt hs (by decide) (one_exprs ht) nia) hst4 hn4
  rw [exD_abs, ai]
  simp [absExA, absExL]
 rw [if_neg (by rw [q]; simp)] at hQ
 refine rtake hV hst (k := 5) (s := kLet) ks5 (fun q g1 h1 h2 => ⟨_, rfl, Bo rfl ?_⟩) (fun q => ⟨_, rfl, Brn rfl ?_⟩)
 ·rw [if_pos q] at hQ
  refine rtake hV h1 (k := 5) (s := kRec) ks5 (fun q2 g2 h3 h4 => ⟨_, rfl, Bo rfl ?_⟩) (fun q2 => ⟨_, rfl, Brn rfl ?_⟩)
  ·rw [if_pos q2] at hQ
   refine rword (f := none) hV h3 (by decide) hQ (h2.trans h4) fun f2 r2 s g2 hs hst2 hn2 _ _ hf2 hQ2 => ⟨_, hs, rfl, ?_⟩
   refine rword hV hst2 (by decide) hQ2 hn2 fun f3 r3 u g3 hu hst3 hn3 _ _ hf3 hQ3 => ⟨_, hu, rfl, ?_⟩
   exact rletTail hV H (F := fun d e => exD 6 s u 0 (.sl 7 [d, e]) .nil (plK V.en r)) hs hu hst3 hn3 (fun _ _ => rfl) hQ3
  ·rw [if_neg (by rw [q2]; simp)] at hQ
   refine rword (f := none) hV h1 (by decide) hQ h2 fun f2 r2 s g2 hs hst2 hn2 _ _ hf2 hQ2 => ⟨_, hs, rfl, ?_⟩
   exact rletTail hV H (F := fun d e => exD 5 s [] 0 (.sl 7 [d, e]) .nil (plK V.en r)) hs (by decide) hst2 hn2 (fun _ _ => rfl) hQ2
 rw [if_neg (by rw [q]; simp)] at hQ
 refine rtake hV hst (k := 5) (s := kIf) ks5 (fun q g1 h1 h2 => ⟨_, rfl, Bo rfl ?_⟩) (fun q => ⟨_, rfl, Brn rfl ?_⟩)
 ·rw [if_pos q] at hQ
  refine I.ex h1 (hQ.call h2 fun f2 r2 d2 g2 ht2 hst2 hn2 _ he2 hQ2 => ⟨d2, ht2, rfl, ?_⟩)
  refine rmust hV hst2 (k := 5) (s := kThen) ks5 hQ2 hn2 fun f3 r3 g3 hst3 hn3 _ _ _ _ hQ3 => ⟨trivial, ?_⟩
  rw [lift_bind] at hQ3
  refine I.ex' hV hst3 (hQ3.call hn3 fun f4 r4 d4 g4 ht4 hst4 hn4 _ he4 hQ4 => ⟨d4, ht4, rfl, ?_⟩)
  refine rmust hV hst4 (k := 5) (s := kElse) ks5 hQ4 hn4 fun f5 r5 g5 hst5 hn5 _ _ _ _ hQ5 => ⟨trivial, ?_⟩
  rw [lift_bind] at hQ5
  refine I.ex' hV hst5 (hQ5.call hn5 fun f6 r6 d6 g6 ht6 hst6 hn6 _ he6 hQ6 => ⟨d6, ht6, rfl, ?_⟩)
  refine hQ6.fin (d := exD 7 [] [] 0 (.sl 7 [d2, d4, d6]) (.sl 5 [ptD 4 nTrue 0 (plK V.en r), ptD 4 nFalse 0 (plK V.en r)]) (plK V.en r)) (fun _ => ?_) (eDt (by decide) (by decide) ?_ ?_) hst6 hn6
  ·rw [exD_abs]
   simp [absExA, absExL, absPtA, absPtL, ptD_abs, con0]
  ·exact ty_sl undExprs zEx bEx (by decide) (by simp) (by intro z hz; simp at hz; rcases hz with rfl | rfl | rfl <;> assumption)
  ·exact ty_sl undPats zPt bPt (by decide) (by simp) (by intro z hz; simp at hz; rcases hz with rfl | rfl <;> exact ptD_ty (by decide))
 rw [if_neg (by rw [q]; simp)] at hQ
 refine rtake hV hst (k := 5) (s := kCase) ks5 (fun q g1 h1 h2 => ⟨_, rfl, Bo rfl ?_⟩) (fun q => ⟨_, rfl, Brn rfl ?_⟩)
 ·rw [if_pos q] at hQ
  exact rx_branches hV I h1 (hQ.imp h2 fun d g' ht hq => ⟨d, ht, rfl, pback ht hq⟩)
 rw [if_neg (by rw [q]; simp)] at hQ
 refine I.lev (l := 0) (by decide) hst (hQ.call .refl fun f2 r2 d g2 ht hst2 hn2 _ he2 hQ2 => ⟨d, ht, rfl, ?_⟩)
 cases f2 with
 | some p' => exact rstop hst2 (pback ht (hQ2 _ _ ht hst2.nil hn2))
 | none =>
  simp only [lift] at hQ2
  refine rgo hst2 (rtake hV hst2 (k := 6) (s := sSemi) ks6 (fun q5 g3 h3 h4 => ⟨_, rfl, Bo rfl ?_⟩) (fun q5 => ⟨_, rfl, Brn rfl ?_⟩))
  ·rw [if_pos q5] at hQ2
   refine I.ex h3 (hQ2.call (hn2.trans h4) fun f6 r6 d6 g6 ht6 hst6 hn6 _ he6 hQ6 => ⟨d6, ht6, rfl, ?_⟩)
   refine hQ6.fin (d := exD 7 [] [] 0 (.sl 7 [d, d6]) (.sl 5 [ptD 4 nUnit 0 (intOf (fld d 6))]) (intOf (fld d 6))) (fun _ => ?_) (eDt (by decide) (by decide) (two_exprs ht ht6) (one_pats (ptD_ty (by decide)))) hst6 hn6
   rw [exD_abs, ← absEx_at ht]
   simp [absExA, absExL, absPtA, absPtL, ptD_abs, con0]
  ·rw [if_neg (by rw [q5]; simp)] at hQ2
   exact pback ht (hQ2 _ _ rfl ht hst2 hn2)
theorem exR (hV : V.Ok) (n : Nat) : ExR V n := by
 induction n using Nat.strongRecOn with
 | ind n H =>
  match n, H with
  | 0, _ => exact ⟨fun _ h => by simp [gEx, RF] at h, fun _ _ h => by simp [gLev, RF] at h, fun _ _ _ _ h => by simp [gOps, RF] at h, fun _ h => by simp [gApp, RF] at h,
    fun _ _ _ _ _ h => by simp [gCo, RF] at h, fun _ _ _ h => by simp [gAppArgs, RF] at h, fun _ h => by simp [gAtom, RF] at h, fun _ _ _ _ _ _ _ h => by simp [gBr, RF] at h⟩
  | n + 1, H =>
   have I := H n (by omega)
   exact ⟨rx_ex hV I H, rx_lev hV I, rx_ops hV I, rx_app hV I, rx_con hV I, rx_args hV I, rx_atom hV I, rx_br hV I⟩
end Go.Proofs.YtgmapdcdmomioaaGreatDoor.Pa
namespace Go.Proofs.YtgmapdcdmomioaaGreatDoor.Pa
open Go Go.Proofs.YtgmapdcdmomioaaGreatDoor.Am
variable {V : Env} {g g0 g1 : Glob} {r : List Pk} {Qf Qi : Out → Glob → Prop} {α β γ : Type} {f : Option Int} {p : Int}
theorem dcback {x : Dat} (ht : Ha TT 76 x) (h : Qf (.val (.d x)) g) : Qf (Out.val (Val.d (Dat.agg [Dat.str (strOf (fld x 0)), fld x 1, fld x 2, Dat.int IntKind.i64 (intOf (fld x 3))]))) g := by
 obtain ⟨s, a, b, p, rfl, hs, ha, hb⟩ := decl_ty ht
 exact h
theorem rparams (hV : V.Ok) {s : Str} {p : Int} {y2 : Dat} : ∀ (r : List Pk) {g : Glob} {f : Option Int} {ps : Dat}, RS V g f r → Nx V g0 g → Ha TT 61 ps → Lv g0.toks.length g 1 ps → (elO ps).length + r.length ≤ 5000 →
  (∀ g' ps', RS V g' f (gParams r).2 → Nx V g0 g' → Ha TT 61 ps' → elO ps' = elO ps ++ (gParams r).1.map Dat.str →
   EvF TT 107 [Dat.ptr (some (V.p, 0)), Dat.str [61]] g' fun out g' => Ou (fun x => Qf (Out.panic x) g') (fun v => Rt v [] ∧ L49_7 V.p (dcD s ps' .nil p) y2 g' Qf) out) →
  L49_4 V.p (dcD s ps .nil p) y2 g Qf := by
 intro r
 induction r with
 | nil =>
  intro g f ps hst hn hp hl hlen K
  cases f with
  | none => exact w49_4 (rgo hst (rtoken hV hst ⟨_, rhd_ty hV hst, rfl, Brn rfl (K g ps hst hn hp (by simp [gParams]))⟩))
  | some p => exact w49_4 (rstop hst (K g ps hst hn hp (by simp [gParams])))
 | cons t r ih =>
  intro g f ps hst hn hp hl hlen K
  have hf := hst.cons (by simp)
  subst hf
  refine w49_4 (rgo hst (rtoken hV hst ⟨_, rhd_ty hV hst, rfl, ?_⟩))
  rw [gParams] at K
  cases q : (t.1.1 == 3) with
  | false =>
   rw [if_neg (by rw [q]; simp)] at K
   exact Brn q (K g ps hst hn hp (by simp))
  | true =>
   rw [if_pos q] at K
   have hs : t.1.2.1.length ≤ 2 ^ 40 := (hst.goo hV t (by simp)).str
   refine Bo q (rword' hV hst (by decide) q fun g' hst' hn' => ⟨_, hs, rfl, fit20 (by decide) (by show (elO ps).length + 1 ≤ _; omega), ?_⟩)
   obtain ⟨d2, g2, e1, e2, ⟨k2, e3⟩, hl2, hn2, hbx, _⟩ := papp0 (y := .str t.1.2.1) (hn.trans hn') (hl.nx hn')
   simp only [List.length_cons] at hlen
   refine ⟨d2, g2, e1, ih (hst'.bx hbx) hn2 ?_ hl2 ?_ fun g3 ps3 h1 h2 h3 h4 => K g3 ps3 h1 h2 h3 ?_⟩
   ·rw [e3]
    exact ty_gsl undStrs zSt bSt (by decide) (by rw [List.length_append, List.length_singleton]; omega) (all_snoc (st_els hp) (ty_str hs))
   ·rw [e2, List.length_append, List.length_singleton]
    omega
   ·rw [h4, e2]
    simp
theorem rconsF (hV : V.Ok) {y3 y2 : Dat} (h0 : RS V g (some p) r) (ht : Ha TT 76 y3) (hQ : ∀ g', RS V g' (some p) [] → Nx V g g' → Qf (.val (.d y3)) g') : L49_7 V.p y3 y2 g Qf :=
 w49_7 (rstop h0 (rmustF hV h0.nil (k := 6) ks6 fun g' h1 h2 => ⟨trivial, dcback ht (hQ g' h1 h2)⟩))
theorem rconEnd (hV : V.Ok) {s u : Str} {ps cs fs y2 : Dat} {p : Int} {A : List Cn → List Pk → Res (List Cn)} (hs : s.length ≤ 2 ^ 40) (hu : u.length ≤ 2 ^ 40) (hps : Ha TT 61 ps) (hc : Ha TT 74 cs) (hf : Ha TT 89 fs) (hst : RS V g f r) (hn : Nx V g0 g) (hl2 : Lv g0.toks.length g 2 cs) (hlen : (elO cs).length ≤ 5000)
  (hQ : RF V abD 76 g0 (lift f ((if iK 6 sBar r then A ((elO cs).map absCn ++ [⟨u, absTyA fs⟩]) r.tail else .ok ((elO cs).map absCn ++ [⟨u, absTyA fs⟩]) r).bind fun cs r4 => (need V.en 6 sSemi r4).bind fun _ r5 => .ok ⟨s, (elO ps).map strOf, cs, p⟩ r5)) Qf)
  (K : ∀ d g', f = none → r.tail.length < r.length → RS V g' none r.tail → Nx V g0 g' → Ha TT 74 d → Lv g0.toks.length g' 2 d → (elO d).length = (elO cs).length + 1 →
   RF V abD 76 g0 ((A ((elO d).map absCn) r.tail).bind fun cs r4 => (need V.en 6 sSemi r4).bind fun _ r5 => .ok ⟨s, (elO ps).map strOf, cs, p⟩ r5) Qf → L49_7 V.p (dcD s ps d p) y2 g' Qf) :
  Fits ((elO cs).length + [cnD u fs].length) 40 ∧ ∃ r g', gapp 2 cs [cnD u fs] (gto g 2 1) = some (r, g') ∧ EvF TT 111 [Dat.ptr (some (V.p, 0)), Dat.str [124]] g' fun out g' => Ou (fun x => Qf (Out.panic x) g') (fun v => ∃ b, v = Val.d (Dat.bool b) ∧ Br (!b) (EvF TT 107 [Dat.ptr (some (V.p, 0)), Dat.str [59]] g' fun out g' => Ou (fun x => Qf (Out.panic x) g') (fun v => Rt v [] ∧ Qf (Out.val (Val.d (dcD s ps r p))) g') out) (L49_7 V.p (dcD s ps r p) y2 g' Qf)) out := by
 obtain ⟨d2, g4, e1, e2, ⟨k2, e3⟩, hl5, hn4, hbx, hL⟩ := papp0 (y := cnD u fs) hn hl2
 have ht2 : Ha TT 74 d2 := by
  rw [e3]
  exact ty_gsl undCons zCn bCn (by decide) (by rw [List.length_append, List.length_singleton]; omega) (all_snoc (cn_els hc) (ty_con hu hf))
 have hmap : (elO d2).map absCn = (elO cs).map absCn ++ [⟨u, absTyA fs⟩] := by
  rw [e2, List.map_append, List.map_cons, List.map_nil, absCn_eq]
 have hst4 := hst.bx hbx
 refine ⟨fit20 (by decide) (by show (elO cs).length + 1 ≤ _; omega), d2, g4, e1, rtake hV hst4 (k := 6) (s := sBar) ks6 (fun q g6 h1 h2 => ⟨_, rfl, Brn rfl ?_⟩) (fun q => ⟨_, rfl, Bo rfl ?_⟩)⟩
 ·have hff := hst4.cons (isK_ne (by decide) q)
  subst hff
  simp only [lift] at hQ
  rw [if_pos q, ← hmap] at hQ
  exact K d2 g6 rfl (tai (by decide) q) h1 (hn4.trans h2) ht2 (hl5.nx h2) (by rw [e2, List.length_append, List.length_singleton]) hQ
 ·rw [if_neg (by rw [q]; simp)] at hQ
  have hQ : RF V abD 76 g0 (lift f ((need V.en 6 sSemi r).bind fun _ r5 => .ok ⟨s, (elO ps).map strOf, (elO cs).map absCn ++ [⟨u, absTyA fs⟩], p⟩ r5)) Qf := hQ
  refine rmust hV hst4 (k := 6) (s := sSemi) ks6 hQ hn4 fun f6 r6 g6 hst6 hn6 _ _ _ _ hQ6 => ⟨trivial, ?_⟩
  exact hQ6.fin (d := dcD s ps d2 p) (fun _ => by rw [absDc_eq, hmap]) (ty_decl hs hps ht2) hst6 hn6
theorem rcons (hV : V.Ok) {s : Str} {p : Int} {ps y2 : Dat} (hs : s.length ≤ 2 ^ 40) (hps : Ha TT 61 ps) : ∀ (n : Nat) {g : Glob} {r : List Pk} {cs : Dat}, RS V g none r → Nx V g0 g → Ha TT 74 cs → Lv g0.toks.length g 2 cs → (elO cs).length + r.length ≤ 5000 →
  RF V abD 76 g0 ((gCons V.en n ((elO cs).map absCn) r).bind fun cs r4 => (need V.en 6 sSemi r4).bind fun _ r5 => .ok ⟨s, (elO ps).map strOf, cs, p⟩ r5) Qf → L49_7 V.p (dcD s ps cs p) y2 g Qf
 | 0, g, r, cs, _, _, _, _, _, hQ => by simp [gCons, Res.bind, RF] at hQ
 | n + 1, g, r, cs, hst, hn, hc, hl, hlen, hQ => by
  rw [gCons, bind_assoc] at hQ
  refine w49_7 (rgo hst (rword (f := none) hV hst (by decide) hQ hn fun f1 r1 u g1 hu hst1 hn1 hn1' _ hf1 hQ1 => ⟨_, hu, rfl, ?_⟩))
  rw [bind_assoc] at hQ1
  have endF : ∀ {g : Glob} {r' : List Pk} {fs : Dat} {q : Int}, RS V g (some q) r' → Nx V g0 g → Ha TT 89 fs → Lv g0.toks.length g 2 cs → RF V abD 76 g0 (.bad q) Qf → L49_9 V.p (cnD u fs) (dcD s ps cs p) y2 g Qf := fun {_ _ fs _} hst hn hf hl2 hQ =>
   w49_9 (rstop hst (rconEnd (cs := cs) (fs := fs) (A := fun l r => gCons V.en n l r) hV hs hu hps hc hf hst hn hl2 (by omega) hQ fun _ _ e => by cases e))
  have fields : ∀ (m : Nat) {g : Glob} {r' : List Pk} {fs : Dat}, r'.length < r.length → RS V g none r' → Nx V g0 g → Ha TT 89 fs → Lv g0.toks.length g 4 fs → Lv g0.toks.length g 2 cs → (elO fs).length + r'.length ≤ 5000 →
    RF V abD 76 g0 ((gFields V.en m (absTyA fs) r').bind fun a r2 => (if iK 6 sBar r2 then gCons V.en n ((elO cs).map absCn ++ [⟨u, a⟩]) r2.tail else .ok ((elO cs).map absCn ++ [⟨u, a⟩]) r2).bind fun cs r4 => (need V.en 6 sSemi r4).bind fun _ r5 => .ok ⟨s, (elO ps).map strOf, cs, p⟩ r5) Qf →
    L49_9 V.p (cnD u fs) (dcD s ps cs p) y2 g Qf := by
   intro m
   induction m with
   | zero => intro g r' fs _ _ _ _ _ _ _ hQ; simp [gFields, Res.bind, RF] at hQ
   | succ m ih =>
    intro g r' fs hr' hst hn hf hl4 hl2 hlen4 hQ
    rw [gFields] at hQ
    refine w49_9 (rgo hst (rtyNext hV hst ⟨_, rfl, ?_⟩))
    cases q : tyNext r' with
    | true =>
     rw [if_pos q, bind_assoc] at hQ
     refine Bo rfl ((tyR hV m).tyatom hst (hQ.call hn fun f3 r3 d g3 ht hst3 hn3 hn3' he hQ3 => ⟨d, ht, rfl, fit20 (by decide) (by show (elO fs).length + 1 ≤ _; omega), ?_⟩))
     obtain ⟨d2, g4, e1, e2, ⟨k2, e3⟩, hl5, hn4, hbx, hL⟩ := papp0 (y := d) hn3 (hl4.nx hn3')
     have ht2 : Ha TT 89 d2 := by
      rw [e3]
      exact snoc_types (ty_els hf) ht (by omega)
     have hl6 := hL 2 cs (by decide) (hl2.nx hn3')
     refine ⟨d2, g4, e1, ?_⟩
     cases f3 with
     | some q3 => exact endF (hst3.bx hbx) hn4 ht2 hl6 hQ3
     | none =>
      have l3 := (gTy_len (en := V.en) m).2.2.2 _ _ _ (he rfl)
      refine ih (by omega) (hst3.bx hbx) hn4 ht2 hl5 hl6 ?_ ?_
      ·rw [e2, List.length_append, List.length_singleton]
       omega
      ·simp only [lift] at hQ3
       rw [absTyA_map, e2, List.map_append, List.map_cons, List.map_nil, ← absTyA_map]
       exact hQ3
    | false =>
     rw [if_neg (by rw [q]; simp)] at hQ
     refine Brn rfl (rconEnd (cs := cs) (fs := fs) (f := none) (A := fun l r => gCons V.en n l r) hV hs hu hps hc hf hst hn hl2 (by omega) hQ fun d g' _ l4 hst4 hn4 htd hld hdl hQ4 => ?_)
     exact rcons hV hs hps n hst4 hn4 htd hld (by omega) hQ4
  cases f1 with
  | some q1 => exact endF hst1 hn1 nil_types (hl.nx hn1') hQ1
  | none =>
   obtain ⟨_, q1, rfl, rfl⟩ := hf1 rfl
   have l1 := tal (by decide) q1
   exact fields n l1 hst1 hn1 nil_types (.inl rfl) (hl.nx hn1') (by show 0 + _ ≤ _; omega) (by simp only [lift] at hQ1; simpa [absTyA] using hQ1)
theorem rdecl (hV : V.Ok) {n : Nat} (hst : RS V g none r) (hQ : RF V abD 76 g (gDecl V.en n r) Qf) : EvF TT 49 [.ptr (some (V.p, 0))] g Qf := by
 unfold gDecl at hQ
 refine w49 (rtoken hV hst ⟨_, rhd_ty hV hst, rfl, ?_⟩)
 refine rmust (f := none) hV hst (k := 5) (s := kType) ks5 hQ .refl fun f1 r1 g1 hst1 hn1 _ _ _ _ hQ1 => ⟨trivial, ?_⟩
 refine rword hV hst1 (by decide) hQ1 hn1 fun f2 r2 s g2 hs hst2 hn2 _ _ _ hQ2 => ⟨_, hs, rfl, ?_⟩
 have hlen := hst2.len hV
 refine rparams hV (s := s) (p := plK V.en r) r2 hst2 hn2 nil_strs (.inl rfl) (by show 0 + _ ≤ _; omega) fun g3 ps h1 h2 h3 h4 => ?_
 refine rmust hV h1 (k := 6) (s := sEq) ks6 hQ2 h2 fun f4 r4 g4 hst4 hn4 _ _ _ _ hQ4 => ⟨trivial, ?_⟩
 have hlen4 := hst4.len hV
 have hps : (elO ps).map strOf = (gParams r2).1 := by
  rw [h4]
  simp only [elO, List.nil_append, List.map_map]
  exact (List.map_congr_left fun x _ => rfl).trans (List.map_id _)
 cases f4 with
 | some q => exact rconsF hV hst4 (ty_decl hs h3 nil_cons) fun g' k1 k2 => hQ4 _ g' (ty_decl hs h3 nil_cons) k1 (hn4.trans k2)
 | none =>
  refine rcons hV hs h3 n hst4 hn4 nil_cons (.inl rfl) (by show 0 + _ ≤ _; omega) ?_
  rw [hps]
  exact hQ4
end Go.Proofs.YtgmapdcdmomioaaGreatDoor.Pa
