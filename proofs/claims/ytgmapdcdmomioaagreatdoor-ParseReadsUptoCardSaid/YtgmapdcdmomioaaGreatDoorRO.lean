/- The document's parser: types, patterns. The document's parser: expressions. -/
import Derived.Test.YtgmapdcdmomioaaGreatDoorRN
set_option linter.all false
set_option autoImplicit false
set_option maxRecDepth 100000
namespace Go.Proofs.YtgmapdcdmomioaaGreatDoor.Pa
open Go Go.Proofs.YtgmapdcdmomioaaGreatDoor.Am
variable {V : Env} {g g0 g1 : Glob} {r : List Pk} {Qf Qi : Out → Glob → Prop} {α β γ : Type} {f : Option Int} {p : Int}
theorem tyback {x : Dat} (ht : Ha TT 94 x) (h : Qf (.val (.d x)) g) : Qf (Out.val (Val.d (Dat.agg [Dat.int IntKind.i64 (intOf (fld x 0)), Dat.str (strOf (fld x 1)), Dat.int IntKind.i64 (intOf (fld x 2)), fld x 3]))) g := by
 obtain ⟨k, s, m, a, rfl, hs, ha⟩ := type_ty ht
 exact h
theorem ptback {x : Dat} (ht : Ha TT 127 x) (h : Qf (.val (.d x)) g) : Qf (Out.val (Val.d (Dat.agg [Dat.int IntKind.i64 (intOf (fld x 0)), Dat.str (strOf (fld x 1)), Dat.int IntKind.i64 (intOf (fld x 2)), fld x 3, Dat.int IntKind.i64 (intOf (fld x 4))]))) g := by
 obtain ⟨k, s, m, a, p, rfl, hs, ha⟩ := pat_ty ht
 exact h
theorem rlow {s : Str} (hs : s.length ≤ 2 ^ 40) (hQ : Qf (.val (.d (lowD s))) g) : EvF TT 187 [.str s] g Qf := by
 refine w187 hs ?_
 unfold lowD at hQ
 show Br (s == kInt) _ _
 cases q : (s == kInt) with
 | true => rw [q] at hQ; exact hQ
 | false => rw [q] at hQ; exact hQ
theorem zTyD : Ha TT 94 (.agg [.int .i64 0, .str [], .int .i64 0, .nil]) := ty_type (by decide) nil_types
theorem rmustF (hV : V.Ok) (h : RS V g (some p) []) {k : Int} {s : Str} (hk : KS k s) (K : ∀ g', RS V g' (some p) [] → Nx V g g' → Qi (.val (.tuple [])) g') : EvF TT 107 [.ptr (some (V.p, 0)), .str s] g Qi := by
 refine w107 hk.len (rtake hV h hk (fun q g' h1 h2 => absurd rfl (isK_ne hk.ne q)) (fun q => ⟨_, rfl, Bo rfl (rbad hV h fun g' h1 h2 => ⟨trivial, K g' h1 h2⟩)⟩))
structure TyR (V : Env) (n : Nat) : Prop where
 typ : ∀ {g : Glob} {r : List Pk} {Qf : Out → Glob → Prop}, RS V g none r → RF V aT 94 g (gTyp V.en n r) Qf → EvF TT 188 [.ptr (some (V.p, 0))] g Qf
 tyapp : ∀ {g : Glob} {r : List Pk} {Qf : Out → Glob → Prop}, RS V g none r → RF V aT 94 g (gTyapp V.en n r) Qf → EvF TT 216 [.ptr (some (V.p, 0))] g Qf
 args : ∀ {g0 g : Glob} {r : List Pk} {y3 y2 : Dat} {Qf : Out → Glob → Prop}, RS V g none r → Nx V g0 g → Ha TT 94 y3 → tyKind (aT y3) = 1 ∨ tyKind (aT y3) = 4 → Lv g0.toks.length g 4 (fld y3 3) → (elO (fld y3 3)).length + r.length ≤ 5000 →
  RF V aT 94 g0 (gTyArgs V.en n (aT y3) r) Qf → L216_4 V.p y3 y2 g Qf
 tyatom : ∀ {g : Glob} {r : List Pk} {Qf : Out → Glob → Prop}, RS V g none r → RF V aT 94 g (gTyatom V.en n r) Qf → EvF TT 110 [.ptr (some (V.p, 0))] g Qf
theorem rtyargsF {y3 y2 : Dat} (h : RS V g (some p) r) (ht : Ha TT 94 y3) (hQ : Qf (.val (.d y3)) g) : L216_4 V.p y3 y2 g Qf :=
 w216_4 (rstop h (tyback ht hQ))
theorem lowTy_kind (s : Str) : tyKind (lowTy s) = 1 ∨ tyKind (lowTy s) = 4 := by
 unfold lowTy
 split
 ·exact .inl rfl
 ·exact .inr rfl
theorem tyR (hV : V.Ok) : ∀ n, TyR V n
 | 0 => ⟨fun _ h => by simp [gTyp, RF] at h, fun _ h => by simp [gTyapp, RF] at h, fun _ _ _ _ _ _ h => by simp [gTyArgs, RF] at h, fun _ h => by simp [gTyatom, RF] at h⟩
 | n + 1 => by
  have I := tyR hV n
  have J := gTy_len (en := V.en) n
  constructor
  ·intro g r Qf hst hQ
   rw [gTyp] at hQ
   refine w188 (I.tyapp hst (hQ.call .refl fun f' r' d g' ht hst' hn' _ he hQ' => ⟨d, ht, rfl, ?_⟩))
   cases f' with
   | some p => exact rstop hst' (tyback ht (hQ' d g' ht (by have := (hst'.2 p rfl).1; subst this; exact hst') hn'))
   | none =>
    have hQ' : RF V aT 94 g (if iK 6 sArrow r' then (gTyp V.en n r'.tail).bind fun u r => .ok (.mk 3 [] 0 [aT d, u]) r else .ok (aT d) r') Qf := hQ'
    refine rgo hst' (rtake hV hst' (k := 6) (s := sArrow) (ks6) (fun q g2 h1 h2 => ⟨_, rfl, Bo rfl ?_⟩) (fun q => ⟨_, rfl, Brn rfl ?_⟩))
    ·rw [if_pos q] at hQ'
     refine I.typ h1 (hQ'.call (hn'.trans h2) fun f2 r2 d2 g3 ht2 hst2 hn2 _ he2 hQ2 => ⟨d2, ht2, rfl, ?_⟩)
     exact hQ2.fin (d := .agg [.int .i64 3, .str [], .int .i64 0, .sl 4 [d, d2]]) (fun _ => by simp only [aT, absTyA, absTyL]) (ty_type (by decide) (two_types ht ht2)) hst2 hn2
    ·rw [if_neg (by rw [q]; simp)] at hQ'
     exact tyback ht (hQ' _ _ rfl ht hst' hn')
  ·intro g r Qf hst hQ
   rw [gTyapp] at hQ
   refine w216 (rtoken hV hst ⟨_, rhd_ty hV hst, rfl, ?_⟩)
   show Br (kdK r != 1) _ _
   cases q : (kdK r == 1) with
   | true =>
    rw [if_pos q] at hQ
    refine Brn (by simp [bne, q]) (rword' hV hst (by decide) q fun g' h1 h2 => ⟨_, tK (hst.goo hV), rfl, rlow (tK (hst.goo hV)) ⟨_, lowD_ty (tK (hst.goo hV)), rfl, ?_⟩⟩)
    have hlen := h1.len hV
    refine I.args h1 h2 (lowD_ty (tK (hst.goo hV))) (by rw [lowD_abs]; exact lowTy_kind _) (.inl ?_) ?_ (by rw [lowD_abs]; exact hQ)
    ·unfold lowD; split <;> rfl
    ·have : elO (fld (lowD (txK r)) 3) = [] := by unfold lowD; split <;> rfl
     rw [this, List.length_nil]
     omega
   | false =>
    rw [if_neg (by rw [q]; simp)] at hQ
    exact Bo (by simp [bne, q]) (I.tyatom hst (hQ.imp .refl fun d g' ht hq => ⟨d, ht, rfl, tyback ht hq⟩))
  ·intro g0 g r y3 y2 Qf hst hn hy hk hl hlen hQ
   rw [gTyArgs] at hQ
   obtain ⟨k, s, m, a, rfl, hs, ha⟩ := type_ty hy
   have hkk : tyKind (aT (.agg [.int .i64 k, .str s, .int .i64 m, a])) = k := by simp [aT, tyKind]
   rw [hkk] at hk hQ
   refine w216_4 (rgo hst (rtyNext hV hst ⟨_, rfl, ?_⟩))
   have hl : Lv g0.toks.length g 4 a := hl
   have hlen : (elO a).length + r.length ≤ 5000 := hlen
   cases q : tyNext r with
   | false =>
    rw [if_neg (by rw [q]; simp)] at hQ
    exact hQ _ _ rfl hy hst hn
   | true =>
    rw [if_pos q] at hQ
    refine Bo rfl ?_
    show Br (k == 1) _ _
    rcases hk with rfl | rfl
    ·rw [if_neg (by decide)] at hQ
     refine Bo rfl (rbad hV hst fun g' h1 h2 => ⟨trivial, ?_⟩)
     exact hQ _ g' hy h1 (hn.trans h2)
    ·rw [if_pos (by decide)] at hQ
     refine Brn rfl (I.tyatom hst (hQ.call hn fun f' r' d g' ht hst' hn' hn'' he hQ' => ⟨d, ht, rfl, ?_, ?_⟩))
     ·exact fit20 (by decide) (by show (elO a).length + 1 ≤ _; omega)
     ·obtain ⟨d2, g2, e1, e2, ⟨k2, e3⟩, hl2, hn2, hbx, _⟩ := papp0 (y := d) hn' (hl.nx hn'')
      have e2 : elO d2 = elO a ++ [d] := e2
      have e3 : d2 = .gsl k2 4 (elO a ++ [d]) := e3
      have ht2 : Ha TT 89 d2 := by
       rw [e3]
       exact snoc_types (ty_els ha) ht (by omega)
      have hyt := ty_type (k := 4) (n := m) hs ht2
      have habs : aT (Dat.agg [Dat.int IntKind.i64 4, Dat.str s, Dat.int IntKind.i64 m, d2]) = tyAdd (aT (.agg [.int .i64 4, .str s, .int .i64 m, a])) (aT d) := by simp [aT, absTyA_map, e2, tyAdd]
      refine ⟨d2, g2, e1, ?_⟩
      cases f' with
      | some p => exact rtyargsF (hst'.bx hbx) hyt (hQ' _ g2 hyt (by have := (hst'.2 p rfl).1; subst this; exact hst'.bx hbx) hn2)
      | none =>
       have l1 := J.2.2.2 _ _ _ (he rfl)
       refine I.args (hst'.bx hbx) hn2 hyt (.inr (by show tyKind (aT (.agg [.int .i64 4, .str s, .int .i64 m, d2])) = 4; simp [aT, tyKind])) hl2 ?_ ?_
       ·show (elO d2).length + _ ≤ _
        rw [e2, List.length_append, List.length_singleton]
        omega
       ·simp only [lift] at hQ'
        rw [← habs] at hQ'
        exact hQ'
  ·intro g r Qf hst hQ
   rw [gTyatom] at hQ
   refine w110 (rtoken hV hst ⟨_, rhd_ty hV hst, rfl, ?_⟩)
   have hx := tK (hst.goo hV)
   cases q : (kdK r == 1) with
   | true =>
    rw [if_pos q] at hQ
    refine Bo q (rword' hV hst (by decide) q fun g' h1 h2 => ⟨_, hx, rfl, rlow hx ⟨_, lowD_ty hx, rfl, tyback (lowD_ty hx) (hQ _ _ (lowD_abs _) (lowD_ty hx) h1 h2)⟩⟩)
   | false =>
    rw [if_neg (by rw [q]; simp)] at hQ
    refine Brn q ?_
    cases q2 : (kdK r == 3) with
    | true =>
     rw [if_pos q2] at hQ
     refine Bo q2 (rword' hV hst (by decide) q2 fun g' h1 h2 => ⟨_, hx, rfl, ?_⟩)
     exact hQ (.agg [.int .i64 2, .str (txK r), .int .i64 0, .nil]) _ (by simp [aT, absTyA]) (ty_type hx nil_types) h1 h2
    | false =>
     rw [if_neg (by rw [q2]; simp)] at hQ
     refine Brn q2 (rmust (f := none) hV hst (k := 6) (s := sOpen) (ks6) hQ .refl fun f' r' g' hst' hn' _ _ hf _ hQ' => ⟨trivial, ?_⟩)
     cases f' with
     | some p =>
      have := (hst'.2 p rfl).1
      subst this
      exact rstop' hst' (hQ' _ _ zTyD hst' hn')
     | none =>
      refine rgo' hst' (I.typ hst' (RF.call (res := gTyp V.en n r') (F := fun t r => (need V.en 6 sClose r).bind fun _ r => .ok t r) hQ' hn' fun f2 r2 d g2 ht hst2 hn2 _ he hQ2 => ⟨d, ht, rfl, ?_⟩))
      refine rmust hV hst2 (k := 6) (s := sClose) (ks6) hQ2 hn2 fun f3 r3 g3 hst3 hn3 _ _ hf3 _ hQ3 => ⟨trivial, ?_⟩
      exact tyback ht (hQ3.fin (fun _ => rfl) ht hst3 hn3)
theorem zPtD : Ha TT 127 (.agg [.int .i64 0, .str [], .int .i64 0, .nil, .int .i64 0]) := ty_pat (by decide) nia
structure PtR (V : Env) (n : Nat) : Prop where
 pat : ∀ {g : Glob} {r : List Pk} {Qf : Out → Glob → Prop}, RS V g none r → RF V aP 127 g (gPat V.en n r) Qf → EvF TT 189 [.ptr (some (V.p, 0))] g Qf
 args : ∀ {g0 g : Glob} {r : List Pk} {y4 y2 : Dat} {Qf : Out → Glob → Prop}, RS V g none r → Nx V g0 g → Ha TT 127 y4 → Lv g0.toks.length g 5 (fld y4 3) → (elO (fld y4 3)).length + r.length ≤ 5000 →
  RF V aP 127 g0 (gPatArgs V.en n (aP y4) r) Qf → L189_5 V.p y4 y2 g Qf
 patom : ∀ {g : Glob} {r : List Pk} {Qf : Out → Glob → Prop}, RS V g none r → RF V aP 127 g (gPatom V.en n r) Qf → EvF TT 217 [.ptr (some (V.p, 0))] g Qf
theorem nmK0 (hg : ∀ t ∈ r, GoodTk t) (h : kdK r ≠ 4) : nmK r = 0 := by
 cases r with
 | nil => rfl
 | cons t r => exact (hg t (by simp)).n0 h
theorem txK0 (hg : ∀ t ∈ r, GoodTk t) (h : kdK r = 4) : txK r = [] := by
 cases r with
 | nil => rfl
 | cons t r => exact (hg t (by simp)).t0 h
theorem rpatargsF {y4 y2 : Dat} (h : RS V g (some p) r) (ht : Ha TT 127 y4) (hQ : Qf (.val (.d y4)) g) : L189_5 V.p y4 y2 g Qf :=
 w189_5 (rstop h (ptback ht hQ))
theorem ptR (hV : V.Ok) : ∀ n, PtR V n
 | 0 => ⟨fun _ h => by simp [gPat, RF] at h, fun _ _ _ _ _ h => by simp [gPatArgs, RF] at h, fun _ h => by simp [gPatom, RF] at h⟩
 | n + 1 => by
  have I := ptR hV n
  have J := gPt_len (en := V.en) n
  constructor
  ·intro g r Qf hst hQ
   rw [gPat] at hQ
   refine w189 (rtoken hV hst ⟨_, rhd_ty hV hst, rfl, ?_⟩)
   show Br (kdK r != 2) _ _
   have hx := tK (hst.goo hV)
   cases q : (kdK r == 2) with
   | true =>
    rw [if_pos q] at hQ
    have q0 : kdK r = 2 := by simpa using q
    rw [nmK0 (hst.goo hV) (by omega)] at hQ
    refine Brn (by simp [bne, q]) ?_
    show EvF TT 108 [.ptr (some (V.p, 0)), .int .i64 (kdK r)] g _
    rw [q0]
    refine rword' hV hst (by decide) q fun g' h1 h2 => ⟨_, hx, rfl, ?_⟩
    have hlen := h1.len hV
    refine I.args h1 h2 (ptD_ty hx) (.inl rfl) ?_ (by rw [show aP (Dat.agg [Dat.int IntKind.i64 4, Dat.str (txK r), Dat.int IntKind.i64 0, Dat.nil, Dat.int IntKind.i64 (intOf (fld (hdD V r) 3))]) = _ from ptD_abs]; exact hQ)
    show 0 + _ ≤ _
    omega
   | false =>
    rw [if_neg (by rw [q]; simp)] at hQ
    exact Bo (by simp [bne, q]) (I.patom hst (hQ.imp .refl fun d g' ht hq => ⟨d, ht, rfl, ptback ht hq⟩))
  ·intro g0 g r y4 y2 Qf hst hn hy hl hlen hQ
   rw [gPatArgs] at hQ
   obtain ⟨k, s, m, a, p, rfl, hs, ha⟩ := pat_ty hy
   have hl : Lv g0.toks.length g 5 a := hl
   have hlen : (elO a).length + r.length ≤ 5000 := hlen
   have body : (atNext r || iK 6 sAny r) = true → EvF TT 217 [Dat.ptr (some (V.p, 0))] g fun out g' => Ou (fun x => Qf (Out.panic x) g') (fun v => ∃ x, Ha TT 127 x ∧ v = Val.d x ∧ Fits ((elO (fld (Dat.agg [.int .i64 k, .str s, .int .i64 m, a, .int .i64 p]) 3)).length + [x].length) 64 ∧ ∃ r g'_1, gapp 5 (fld (Dat.agg [.int .i64 k, .str s, .int .i64 m, a, .int .i64 p]) 3) [x] (gto g' 5 1) = some (r, g'_1) ∧ L189_5 V.p (Dat.agg [Dat.int IntKind.i64 k, Dat.str s, Dat.int IntKind.i64 m, r, Dat.int IntKind.i64 p]) y2 g'_1 Qf) out := by
    intro q
    rw [if_pos q] at hQ
    refine I.patom hst (hQ.call hn fun f' r' d g' ht hst' hn' hn'' he hQ' => ⟨d, ht, rfl, ?_, ?_⟩)
    ·exact fit20 (by decide) (by show (elO a).length + 1 ≤ _; omega)
    ·obtain ⟨d2, g2, e1, e2, ⟨k2, e3⟩, hl2, hn2, hbx, _⟩ := papp0 (y := d) hn' (hl.nx hn'')
     have ht2 : Ha TT 25 d2 := by
      rw [e3]
      exact snoc_pats (pt_els ha) ht (by omega)
     have hyt := ty_pat (k := k) (n := m) (p := p) hs ht2
     have habs : aP (Dat.agg [Dat.int IntKind.i64 k, Dat.str s, Dat.int IntKind.i64 m, d2, Dat.int IntKind.i64 p]) = ptAdd (aP (.agg [.int .i64 k, .str s, .int .i64 m, a, .int .i64 p])) (aP d) := by simp [aP, aA, e2, ptAdd]
     refine ⟨d2, g2, e1, ?_⟩
     cases f' with
     | some p' => exact rpatargsF (hst'.bx hbx) hyt (hQ' _ g2 hyt (by have := (hst'.2 p' rfl).1; subst this; exact hst'.bx hbx) hn2)
     | none =>
      have l1 := J.2.2 _ _ _ (he rfl)
      refine I.args (hst'.bx hbx) hn2 hyt hl2 ?_ ?_
      ·show (elO d2).length + _ ≤ _
       rw [e2, List.length_append, List.length_singleton]
       omega
      ·simp only [lift] at hQ'
       rw [← habs] at hQ'
       exact hQ'
   refine w189_5 (rgo hst (ratNext hV hst ⟨_, rfl, ?_⟩))
   cases q : atNext r with
   | true => exact body (by rw [q]; rfl)
   | false =>
    refine ris hV hst (k := 6) (ks6) ⟨_, rfl, ?_⟩
    show Br (iK 6 sAny r) _ _
    cases q2 : iK 6 sAny r with
    | true => exact body (by rw [q2]; simp)
    | false =>
     rw [if_neg (by rw [q, q2]; simp)] at hQ
     exact hQ _ _ rfl hy hst hn
  ·intro g r Qf hst hQ
   rw [gPatom] at hQ
   have hx := tK (hst.goo hV)
   have hg := hst.goo hV
   have wd : ∀ {i k : Int}, i ≠ 0 → i ≠ 4 → (kdK r == i) = true → RF V aP 127 g (.ok (.mk k (txK r) (nmK r) [] (plK V.en r)) r.tail) Qf →
     EvF TT 108 [.ptr (some (V.p, 0)), .int .i64 (intOf (fld (hdD V r) 0))] g fun out g' => Ou (fun x => Qf (Out.panic x) g') (fun v => ∃ s, s.length.le 1099511627776 ∧ v = Val.d (Dat.str s) ∧ Qf (Out.val (Val.d (ptD k s 0 (plK V.en r)))) g') out := fun {i k} hi hi4 q hQ => by
    have q0 : kdK r = i := by simpa using q
    rw [nmK0 hg (by omega)] at hQ
    show EvF TT 108 [.ptr (some (V.p, 0)), .int .i64 (kdK r)] g _
    rw [q0]
    exact rword' hV hst hi q fun g' h1 h2 => ⟨_, hx, rfl, hQ _ _ ptD_abs (ptD_ty hx) h1 h2⟩
   refine w217 (rtoken hV hst ⟨_, rhd_ty hV hst, rfl, ?_⟩)
   cases q : (kdK r == 1) with
   | true =>
    rw [if_pos q] at hQ
    exact Bo q (wd (i := 1) (by decide) (by decide) q hQ)
   | false =>
   rw [if_neg (by rw [q]; simp)] at hQ
   refine Brn q ?_
   cases q4 : (kdK r == 2) with
   | true =>
    have q0 : kdK r = 2 := by simpa using q4
    rw [if_neg (by simp [iK, q0]), if_neg (by simp [q0]), if_pos q4] at hQ
    exact Bo q4 (wd (i := 2) (by decide) (by decide) q4 hQ)
   | false =>
   refine Brn q4 ?_
   cases q3 : (kdK r == 4) with
   | true =>
    have q0 : kdK r = 4 := by simpa using q3
    rw [if_neg (by simp [iK, q0]), if_pos q3, txK0 hg q0] at hQ
    refine Bo q3 ?_
    obtain ⟨n2, g', h1, h2, h3, h4, h5⟩ := radv hV hst (ne_nil (by decide) q3)
    refine ⟨n2, h1, h2, ?_⟩
    rw [h3]
    exact hQ (ptD 3 [] (nmK r) (plK V.en r)) _ ptD_abs (ptD_ty (by decide)) h4 h5
   | false =>
   refine Brn q3 (rtake hV hst (k := 6) (s := sAny) (ks6) (fun q2 g' h1 h2 => ⟨_, rfl, Bo rfl ?_⟩) (fun q2 => ⟨_, rfl, Brn rfl ?_⟩))
   ·rw [if_pos q2] at hQ
    have q6 := isAny_k q2
    have q0 : kdK r = 6 := by simpa using q6
    rw [nmK0 hg (by omega)] at hQ
    exact hQ (ptD 1 [] 0 (plK V.en r)) _ ptD_abs (ptD_ty (by decide)) h1 h2
   ·rw [if_neg (by rw [q2]; simp), if_neg (by rw [q3]; simp), if_neg (by rw [q4]; simp)] at hQ
    refine rmust (f := none) hV hst (k := 6) (s := sOpen) (ks6) hQ .refl fun f' r' g' hst' hn' _ _ hf _ hQ' => ⟨trivial, ?_⟩
    cases f' with
    | some p =>
     have := (hst'.2 p rfl).1
     subst this
     exact rstop' hst' (hQ' _ _ zPtD hst' hn')
    | none =>
     refine rgo' hst' (I.pat hst' (RF.call (res := gPat V.en n r') (F := fun t r => (need V.en 6 sClose r).bind fun _ r => .ok t r) hQ' hn' fun f2 r2 d g2 ht hst2 hn2 _ he hQ2 => ⟨d, ht, rfl, ?_⟩))
     refine rmust hV hst2 (k := 6) (s := sClose) (ks6) hQ2 hn2 fun f3 r3 g3 hst3 hn3 _ _ hf3 _ hQ3 => ⟨trivial, ?_⟩
     exact ptback ht (hQ3.fin (fun _ => rfl) ht hst3 hn3)
end Go.Proofs.YtgmapdcdmomioaaGreatDoor.Pa
namespace Go.Proofs.YtgmapdcdmomioaaGreatDoor.Pa
open Go Go.Proofs.YtgmapdcdmomioaaGreatDoor.Am
variable {V : Env} {g g0 g1 : Glob} {r : List Pk} {Qf Qi : Out → Glob → Prop} {α β γ : Type} {f : Option Int} {p : Int}
theorem neB {a b : Int} (h : a ≠ b) : (a == b) = false := by simpa using h
theorem zExD : Ha TT 27 (exD 0 [] [] 0 .nil .nil 0) := eDt (by decide) (by decide) nil_exprs nia
theorem RS.nil (h : RS V g (some p) r) : RS V g (some p) [] := by
 have := (h.2 p rfl).1
 subst this
 exact h
theorem rfail_expr (hV : V.Ok) (h : RS V g (some p) r) (hQ : RF V ax 27 g (.bad p) Qf) : EvF TT 50 [.ptr (some (V.p, 0))] g Qf :=
 w50 (rtoken hV h ⟨_, rhd_ty hV h, rfl, rstop' h (hQ _ _ zExD h.nil .refl)⟩)
theorem rappargsF {y5 y2 : Dat} (h : RS V g (some p) r) (ht : Ha TT 27 y5) (hQ : Qf (.val (.d y5)) g) : L190_10 V.p y5 y2 g Qf :=
 w190_10 (rstop h (pback ht hQ))
theorem rconargsF {y4 y2 : Dat} (h : RS V g (some p) r) (ht : Ha TT 27 y4) (hQ : Qf (.val (.d y4)) g) : L190_6 V.p y4 y2 g Qf :=
 w190_6 (rstop h (pback ht hQ))
theorem ropsF {n1 : Int} {x6 y5 y4 : Dat} (h : RS V g (some p) r) (ht : Ha TT 27 y5) (hQ : Qf (.val (.d y5)) g) : L113_5 V.p n1 x6 y5 y4 g Qf :=
 w113_5 (rstop h (pback ht hQ))
theorem rsigns {l : Nat} (hl : l < 3) (hQ : Qf (.val (.uq 1 ((sgns l).map .str))) g) : EvF TT 191 [.int .i64 (l : Int)] g Qf := by
 refine w191 ?_
 match l, hl, hQ with
 | 0, _, hQ => exact Bo rfl hQ
 | 1, _, hQ => exact Brn rfl (Bo rfl hQ)
 | 2, _, hQ => exact Brn rfl (Brn rfl hQ)
theorem rbrF (hV : V.Ok) {y5 y4 : Dat} (h0 : RS V g (some p) r) (ht : Ha TT 27 y5) (hQ : ∀ g', RS V g' (some p) [] → Nx V g g' → Qf (.val (.d y5)) g') : L112_3 V.p y5 y4 g Qf := by
 have h := h0.nil
 exact w112_3 (rstop h (rmustF hV h (k := 5) ks5 fun g' h1 h2 => ⟨trivial, pback ht (hQ g' h1 h2)⟩))
structure ExR (V : Env) (n : Nat) : Prop where
 ex : ∀ {g : Glob} {r : List Pk} {Qf : Out → Glob → Prop}, RS V g none r → RF V ax 27 g (gEx V.en n r) Qf → EvF TT 50 [.ptr (some (V.p, 0))] g Qf
 lev : ∀ {l : Nat} {g : Glob} {r : List Pk} {Qf : Out → Glob → Prop}, l ≤ 3 → RS V g none r → RF V ax 27 g (gLev V.en n l r) Qf → EvF TT 113 [.ptr (some (V.p, 0)), .int .i64 (l : Int)] g Qf
 ops : ∀ {l : Nat} {g0 g : Glob} {r : List Pk} {y5 y4 : Dat} {Qf : Out → Glob → Prop}, l < 3 → RS V g none r → Nx V g0 g → Ha TT 27 y5 → RF V ax 27 g0 (gOps V.en n l (ax y5) r) Qf → L113_5 V.p (l : Int) (.sl 1 ((sgns l).map .str)) y5 y4 g Qf
 app : ∀ {g : Glob} {r : List Pk} {Qf : Out → Glob → Prop}, RS V g none r → RF V ax 27 g (gApp V.en n r) Qf → EvF TT 190 [.ptr (some (V.p, 0))] g Qf
 con : ∀ {g0 g : Glob} {r : List Pk} {y4 y2 : Dat} {Qf : Out → Glob → Prop}, RS V g none r → Nx V g0 g → Ha TT 27 y4 → Lv g0.toks.length g 7 (fld y4 4) → (elO (fld y4 4)).length + r.length ≤ 5000 →
  RF V ax 27 g0 (gCo V.en n (ax y4) r) Qf → L190_6 V.p y4 y2 g Qf
 args : ∀ {g0 g : Glob} {r : List Pk} {y5 y2 : Dat} {Qf : Out → Glob → Prop}, RS V g none r → Nx V g0 g → Ha TT 27 y5 → RF V ax 27 g0 (gAppArgs V.en n (ax y5) r) Qf → L190_10 V.p y5 y2 g Qf
 atom : ∀ {g : Glob} {r : List Pk} {Qf : Out → Glob → Prop}, RS V g none r → RF V ax 27 g (gAtom V.en n r) Qf → EvF TT 219 [.ptr (some (V.p, 0))] g Qf
 br : ∀ {g0 g : Glob} {r : List Pk} {y5 y4 : Dat} {Qf : Out → Glob → Prop}, RS V g none r → Nx V g0 g → Ha TT 27 y5 → Lv g0.toks.length g 7 (fld y5 4) → Lv g0.toks.length g 5 (fld y5 5) → (elO (fld y5 4)).length + r.length ≤ 5000 → (elO (fld y5 5)).length + r.length ≤ 5000 →
  RF V ax 27 g0 (gBr V.en n (ax y5) r) Qf → L112_3 V.p y5 y4 g Qf
theorem ExR.ex' {n : Nat} (I : ExR V n) (hV : V.Ok) (h : RS V g f r) (hQ : RF V ax 27 g (lift f (gEx V.en n r)) Qf) : EvF TT 50 [.ptr (some (V.p, 0))] g Qf := by
 cases f with
 | none => exact I.ex h hQ
 | some p => exact rfail_expr hV h hQ
theorem rx_atom (hV : V.Ok) {n : Nat} (I : ExR V n) {g : Glob} {r : List Pk} {Qf : Out → Glob → Prop} (hst : RS V g none r) (hQ : RF V ax 27 g (gAtom V.en (n + 1) r) Qf) : EvF TT 219 [.ptr (some (V.p, 0))] g Qf := by
 rw [gAtom] at hQ
 have hx := tK (hst.goo hV)
 have hg := hst.goo hV
 have wd : ∀ {i k : Int}, i ≠ 0 → i ≠ 4 → (kdK r == i) = true → RF V ax 27 g (.ok (.mk k (txK r) [] (nmK r) [] [] (plK V.en r)) r.tail) Qf →
   EvF TT 108 [.ptr (some (V.p, 0)), .int .i64 (intOf (fld (hdD V r) 0))] g fun out g' => Ou (fun x => Qf (Out.panic x) g') (fun v => ∃ s, s.length.le 1099511627776 ∧ v = Val.d (Dat.str s) ∧ Qf (Out.val (Val.d (exD k s [] 0 .nil .nil (plK V.en r)))) g') out := fun {i k} hi hi4 q hQ => by
  have q0 : kdK r = i := by simpa using q
  rw [nmK0 hg (by omega)] at hQ
  show EvF TT 108 [.ptr (some (V.p, 0)), .int .i64 (kdK r)] g _
  rw [q0]
  exact rword' hV hst hi q fun g' h1 h2 => ⟨_, hx, rfl, hQ _ _ (by rw [exD_abs, absExA_nil, ai]) (eDt hx (by decide) nil_exprs nia) h1 h2⟩
 refine w219 (rtoken hV hst ⟨_, rhd_ty hV hst, rfl, ?_⟩)
 cases q : (kdK r == 1) with
 | true =>
  rw [if_pos q] at hQ
  exact Bo q (wd (i := 1) (by decide) (by decide) q hQ)
 | false =>
 rw [if_neg (by rw [q]; simp)] at hQ
 refine Brn q ?_
 cases q4 : (kdK r == 2) with
 | true =>
  have q0 : kdK r = 2 := by simpa using q4
  rw [if_neg (by simp [q0]), if_pos q4] at hQ
  exact Bo q4 (wd (i := 2) (by decide) (by decide) q4 hQ)
 | false =>
 refine Brn q4 ?_
 cases q3 : (kdK r == 4) with
 | true =>
  have q0 : kdK r = 4 := by simpa using q3
  rw [if_pos q3, txK0 hg q0] at hQ
  refine Bo q3 ?_
  obtain ⟨n2, g', h1, h2, h3, h4, h5⟩ := radv hV hst (ne_nil (by decide) q3)
  refine ⟨n2, h1, h2, ?_⟩
  rw [h3]
  exact hQ (exD 2 [] [] (nmK r) .nil .nil (plK V.en r)) _ (by rw [exD_abs, absExA_nil, ai]) (eDt (by decide) (by decide) nil_exprs nia) h4 h5
 | false =>
  rw [if_neg (by rw [q3]; simp), if_neg (by rw [q4]; simp)] at hQ
  refine Brn q3 (rmust (f := none) hV hst (k := 6) (s := sOpen) (ks6) hQ .refl fun f' r' g' hst' hn' _ _ hf _ hQ' => ⟨trivial, ?_⟩)
  cases f' with
  | some p => exact rstop' hst' (hQ' _ _ zExD hst'.nil hn')
  | none =>
   refine rgo' hst' (I.ex hst' (RF.call (res := gEx V.en n r') (F := fun t r => (need V.en 6 sClose r).bind fun _ r => .ok t r) hQ' hn' fun f2 r2 d g2 ht hst2 hn2 _ he hQ2 => ⟨d, ht, rfl, ?_⟩))
   refine rmust hV hst2 (k := 6) (s := sClose) (ks6) hQ2 hn2 fun f3 r3 g3 hst3 hn3 _ _ hf3 _ hQ3 => ⟨trivial, ?_⟩
   exact pback ht (hQ3.fin (fun _ => rfl) ht hst3 hn3)
theorem rx_con (hV : V.Ok) {n : Nat} (I : ExR V n) {g0 g : Glob} {r : List Pk} {y4 y2 : Dat} {Qf : Out → Glob → Prop} (hst : RS V g none r) (hn : Nx V g0 g) (hy : Ha TT 27 y4) (hl : Lv g0.toks.length g 7 (fld y4 4)) (hlen : (elO (fld y4 4)).length + r.length ≤ 5000)
  (hQ : RF V ax 27 g0 (gCo V.en (n + 1) (ax y4) r) Qf) : L190_6 V.p y4 y2 g Qf := by
 rw [gCo] at hQ
 obtain ⟨k, s, u, m, a, b, p, rfl, hs, hu, ha, hb⟩ := ex_inv hy
 have hl : Lv g0.toks.length g 7 a := hl
 have hlen : (elO a).length + r.length ≤ 5000 := hlen
 refine w190_6 (rgo hst (ratNext hV hst ⟨_, rfl, ?_⟩))
 cases q : atNext r with
 | false =>
  rw [if_neg (by rw [q]; simp)] at hQ
  exact hQ _ _ rfl hy hst hn
 | true =>
  rw [if_pos q] at hQ
  refine I.atom hst (hQ.call hn fun f' r' d g' ht hst' hn' hn'' he hQ' => ⟨d, ht, rfl, ?_, ?_⟩)
  ·exact fit20 (by decide) (by show (elO a).length + 1 ≤ _; omega)
  ·obtain ⟨d2, g2, e1, e2, ⟨k2, e3⟩, hl2, hn2, hbx, _⟩ := papp0 (y := d) hn' (hl.nx hn'')
   have ht2 : Ha TT 24 d2 := by
    rw [e3]
    exact snoc_exprs (ex_els ha) ht (by omega)
   have hyt := eDt (k := k) (n := m) (p := p) hs hu ht2 hb
   have habs : ax (exD k s u m d2 b p) = exAdd (ax (exD k s u m a b p)) (ax d) := by simp [exD, ax, abE, e2, exAdd]
   refine ⟨d2, g2, e1, ?_⟩
   cases f' with
   | some p' => exact rconargsF (hst'.bx hbx) hyt (hQ' _ g2 hyt (hst'.bx hbx).nil hn2)
   | none =>
    have l1 := (exLen n).atom (he rfl)
    refine I.con (y4 := exD k s u m d2 b p) (hst'.bx hbx) hn2 hyt hl2 ?_ (by rw [habs]; exact hQ')
    show (elO d2).length + _ ≤ _
    rw [e2, List.length_append, List.length_singleton]
    omega
theorem rx_args (hV : V.Ok) {n : Nat} (I : ExR V n) {g0 g : Glob} {r : List Pk} {y5 y2 : Dat} {Qf : Out → Glob → Prop} (hst : RS V g none r) (hn : Nx V g0 g) (hy : Ha TT 27 y5)
  (hQ : RF V ax 27 g0 (gAppArgs V.en (n + 1) (ax y5) r) Qf) : L190_10 V.p y5 y2 g Qf := by
 rw [gAppArgs] at hQ
 refine w190_10 (rgo hst (ratNext hV hst ⟨_, rfl, ?_⟩))
 cases q : atNext r with
 | false =>
  rw [if_neg (by rw [q]; simp)] at hQ
  exact pback hy (hQ _ _ rfl hy hst hn)
 | true =>
  rw [if_pos q] at hQ
  refine I.atom hst (hQ.call hn fun f' r' d g' ht hst' hn' hn'' he hQ' => ⟨d, ht, rfl, ?_⟩)
  have hyt := eDt (k := 4) (n := 0) (p := intOf (fld y5 6)) (s := []) (u := []) (by decide) (by decide) (gtwo_exprs (k := g'.toks.length) hy ht) nia
  have habs : ax (exD 4 [] [] 0 (.gsl g'.toks.length 7 [y5, d]) .nil (intOf (fld y5 6))) = .mk 4 [] [] 0 [ax y5, ax d] [] (exAt (ax y5)) := by
   rw [exD_abs, ← absEx_at hy, ai]
   simp [absExA, absExL]
  cases f' with
  | some p' => exact rappargsF (hst'.tok (m := 7) (n := 2)) hyt (hQ' _ _ hyt hst'.nil.tok (hn'.trans .tok))
  | none => exact I.args (y5 := exD 4 [] [] 0 (.gsl g'.toks.length 7 [y5, d]) .nil (intOf (fld y5 6))) (hst'.tok (m := 7) (n := 2)) (hn'.trans .tok) hyt (by rw [habs]; exact hQ')
theorem rx_app (hV : V.Ok) {n : Nat} (I : ExR V n) {g : Glob} {r : List Pk} {Qf : Out → Glob → Prop} (hst : RS V g none r) (hQ : RF V ax 27 g (gApp V.en (n + 1) r) Qf) : EvF TT 190 [.ptr (some (V.p, 0))] g Qf := by
 rw [gApp] at hQ
 have hx := tK (hst.goo hV)
 refine w190 (rtoken hV hst ⟨_, rhd_ty hV hst, rfl, rtake hV hst (k := 5) (s := kPrint) ks5 (fun q g' h1 h2 => ⟨_, rfl, Bo rfl ?_⟩) (fun q => ⟨_, rfl, Brn rfl (rtoken hV hst ⟨_, rhd_ty hV hst, rfl, ?_⟩)⟩)⟩)
 ·have q0 : (kdK r == 2) = false := by
   unfold iK at q
   rw [Bool.and_eq_true] at q
   have : kdK r = 5 := by simpa using q.1
   rw [this]; rfl
  rw [if_neg (by rw [q0]; simp), if_pos q] at hQ
  refine I.atom h1 (hQ.call h2 fun f' r' d g2 ht hst' hn' hn'' he hQ' => ⟨d, ht, rfl, ?_⟩)
  refine hQ'.fin (d := exD 10 [] [] 0 (.gsl g2.toks.length 7 [d]) .nil (plK V.en r)) (fun _ => ?_) (eDt (by decide) (by decide) (gone_exprs ht) nia) (hst'.tok (m := 7) (n := 1)) (hn'.trans .tok)
  rw [exD_abs, ai]
  simp [absExA, absExL]
 ·cases q2 : (kdK r == 2) with
  | true =>
   rw [if_pos q2] at hQ
   have q0 : kdK r = 2 := by simpa using q2
   refine Bo q2 (rword' hV hst (by decide) q2 fun g' h1 h2 => ⟨_, hx, rfl, ?_⟩)
   have hlen := h1.len hV
   refine I.con (y4 := exD 8 (txK r) [] 0 .nil .nil (plK V.en r)) h1 h2 (eDt hx (by decide) nil_exprs nia) (.inl rfl) (by show 0 + _ ≤ _; omega) ?_
   rw [exD_abs, absExA_nil, ai]
   cases n with
   | zero => simp [gAtom, Res.bind, RF] at hQ
   | succ n =>
    rw [gAtom, if_neg (by rw [q0]; decide), if_neg (by rw [q0]; decide), if_pos q2, nmK0 (hst.goo hV) (by omega)] at hQ
    exact hQ
  | false =>
   rw [if_neg (by rw [q2]; simp), if_neg (by rw [q]; simp)] at hQ
   refine Brn q2 (I.atom hst (hQ.call .refl fun f' r' d g' ht hst' hn' hn'' he hQ' => ⟨d, ht, rfl, ?_⟩))
   cases f' with
   | some p' => exact rappargsF hst' ht (hQ' _ _ ht hst'.nil hn')
   | none => exact I.args hst' hn' ht hQ'
def pickS (r : List Pk) : List Str → Str → Str
 | [], s => s
 | x :: l, s => pickS r l (if iK 6 x r then x else s)
theorem pickS_ne : ∀ {l : List Str} {s : Str}, kdK r ≠ 6 → pickS r l s = s
 | [], s, h => rfl
 | x :: l, s, h => by
  have : iK 6 x r = false := by simp [iK, h]
  simp only [pickS, this, Bool.false_eq_true, if_false]
  exact pickS_ne h
theorem pickS_out : ∀ {l : List Str} {s : Str}, txK r ∉ l → pickS r l s = s
 | [], s, h => rfl
 | x :: l, s, h => by
  simp only [List.mem_cons, not_or] at h
  have : iK 6 x r = false := by simp [iK, h.1]
  simp only [pickS, this, Bool.false_eq_true, if_false]
  exact pickS_out h.2
theorem pickS_in : ∀ {l : List Str} {s : Str}, kdK r = 6 → txK r ∈ l → pickS r l s = txK r
 | [], s, h, hm => by cases hm
 | x :: l, s, h, hm => by
  by_cases e : txK r ∈ l
  ·simp only [pickS]
   exact pickS_in h e
  ·rcases List.mem_cons.1 hm with rfl | hm
   ·have : iK 6 (txK r) r = true := by simp [iK, h]
    simp only [pickS, this, if_true]
    exact pickS_out e
   ·exact absurd hm e
theorem pickS_eq {l : Nat} : pickS r (sgns l) [] = if sgNext l r then txK r else [] := by
 unfold sgNext
 by_cases h : kdK r = 6
 ·by_cases e : txK r ∈ sgns l
  ·rw [if_pos (by simp [h, e]), pickS_in h e]
  ·rw [if_neg (by simp [h, e]), pickS_out e]
 ·rw [if_neg (by simp [h]), pickS_ne h]
theorem sgns_sign {l : Nat} : ∀ x ∈ sgns l, x ∈ sin ∧ x ≠ [] := by
 match l with
 | 0 => decide
 | 1 => decide
 | _ + 2 => show ∀ x ∈ ([[42], [47], [37]] : List Str), x ∈ sin ∧ x ≠ []; decide
theorem rsignLoop (hV : V.Ok) {n1 : Int} {y5 y4 : Dat} {sg : List Str} (hst : RS V g none r) (hy : Ha TT 27 y5) (hs : ∀ x ∈ sg, x ∈ sin) (hl : sg.length ≤ 100) {s1 : Str}
  (hr : s1 ≠ [] → r ≠ []) (no : s1 = [] → Qf (.val (.d y5)) g)
  (yes : s1 ≠ [] → ∀ g1, RS V g1 none r.tail → Nx V g g1 → EvF TT 113 [.ptr (some (V.p, 0)), .int .i64 (IntKind.i64.wrap (n1 + 1))] g1 fun out g' => Ou (fun x => Qf (.panic x) g') (fun v => ∃ x, Ha TT 27 x ∧ v = .d x ∧ Br (n1 == 0) (Qf (.val (.d (primD s1 y5 x))) g') (L113_5 V.p n1 (.sl 1 (sg.map .str)) (primD s1 y5 x) y4 g' Qf)) out) :
  ∀ (l pre : List Str) (s : Str), sg = pre ++ l → pickS r l s = s1 → L113_8 V.p n1 (.sl 1 (sg.map .str)) s (pre.length : Int) y5 y4 g Qf
 | [], pre, s, e, hp => by
  have e1 : pre.length = (elO (.sl 1 (sg.map .str))).length := by simp [elO, e]
  have hp : s = s1 := hp
  subst hp
  refine w113_8 (Brn (by rw [← e1]; simp) ?_)
  cases q : (s == []) with
  | true => exact Bo rfl (pback hy (no (by simpa using q)))
  | false =>
   have q : s ≠ [] := by simpa using q
   refine Brn rfl ?_
   obtain ⟨n2, g', h1, h2, h3, h4, h5⟩ := radv hV hst (hr q)
   refine ⟨n2, h1, h2, ?_⟩
   rw [h3]
   exact yes q g' h4 h5
 | x :: l, pre, s, e, hp => by
  have e1 : pre.length < (elO (.sl 1 (sg.map .str))).length := by simp [elO, e]
  have hg : gtE (elO (.sl 1 (sg.map .str))) (pre.length : Int) = .str x := by
   simp only [elO, gtE, Int.toNat_natCast, e, List.map_append, List.map_cons]
   have := nth_app (pre := pre.map Dat.str) (x := .str x) (l := l.map .str)
   rw [List.length_map] at this
   exact this
  have hlen : pre.length ≤ 100 := by rw [e, List.length_append] at hl; omega
  refine w113_8 (Bo (by simpa using e1) ⟨inB e1, ?_⟩)
  rw [hg]
  have hx : x ∈ sin := hs x (by rw [e]; simp)
  have next : ∀ s', pickS r l s' = s1 → L113_8 V.p n1 (.sl 1 (sg.map .str)) s' (IntKind.i64.wrap ((pre.length : Int) + 1)) y5 y4 g Qf := fun s' h => by
   rw [wra (by omega)]
   have := rsignLoop hV hst hy hs hl hr no yes l (pre ++ [x]) s' (by rw [e, List.append_assoc]; rfl) h
   rw [List.length_append] at this
   exact this
  refine ris hV hst (k := 6) (s := x) (ks6 hx) ⟨_, rfl, ?_⟩
  cases q : iK 6 x r with
  | true =>
   refine Bo rfl ⟨inB e1, next x ?_⟩
   rw [← hp]
   simp only [pickS, q, if_true]
  | false =>
   refine Brn rfl (next s ?_)
   rw [← hp]
   simp only [pickS, q, Bool.false_eq_true, if_false]
theorem rx_ops (hV : V.Ok) {n : Nat} (I : ExR V n) {l : Nat} {g0 g : Glob} {r : List Pk} {y5 y4 : Dat} {Qf : Out → Glob → Prop} (hl : l < 3) (hst : RS V g none r) (hn : Nx V g0 g) (hy : Ha TT 27 y5)
  (hQ : RF V ax 27 g0 (gOps V.en (n + 1) l (ax y5) r) Qf) : L113_5 V.p (l : Int) (.sl 1 ((sgns l).map .str)) y5 y4 g Qf := by
 rw [gOps] at hQ
 have hx := tK (hst.goo hV)
 have hsg : (sgns l).length ≤ 3 := by
  match l with
  | 0 => decide
  | 1 => decide
  | _ + 2 => exact Nat.le_refl _
 have hin : sgNext l r = true → txK r ≠ [] := fun q => by
  unfold sgNext at q
  rw [Bool.and_eq_true, List.any_eq_true] at q
  obtain ⟨_, x, hx, e⟩ := q
  have e := beq_iff_eq.1 e
  rw [← e]
  exact (sgns_sign x hx).2
 refine w113_5 (rgo hst (rsignLoop hV hst hy (fun x hx => (sgns_sign x hx).1) (by omega) (s1 := if sgNext l r then txK r else []) (fun h => ?_) (fun h => ?_) (fun h g1 h1 h2 => ?_) (sgns l) [] [] rfl pickS_eq))
 ·cases q : sgNext l r with
  | true =>
   unfold sgNext at q
   rw [Bool.and_eq_true] at q
   exact ne_nil (by decide) q.1
  | false => rw [q] at h; exact absurd rfl h
 ·cases q : sgNext l r with
  | true => rw [q, if_pos rfl] at h; exact absurd h (hin q)
  | false =>
   rw [if_neg (by rw [q]; simp)] at hQ
   exact hQ _ _ rfl hy hst hn
 ·cases q : sgNext l r with
  | false => rw [q] at h; exact absurd rfl h
  | true =>
   rw [if_pos q] at hQ
   rw [if_pos rfl, wra (by omega)]
   refine I.lev (l := l + 1) (by omega) h1 (hQ.call (hn.trans h2) fun f' r' d g' ht hst' hn' hn'' he hQ' => ⟨d, ht, rfl, ?_⟩)
   have hyt : Ha TT 27 (primD (txK r) y5 d) := eDt hx (by decide) (two_exprs hy ht) nia
   have habs := primD_abs (s := txK r) (y := d) hy
   cases q0 : (l == 0) with
   | true =>
    have q1 : l = 0 := by simpa using q0
    subst q1
    refine Bo rfl ?_
    exact RF.fin (ab := ax) (v := Ex'.mk 9 (txK r) [] 0 [ax y5, ax d] [] (exAt (ax y5))) (by rw [if_pos (by rfl)] at hQ'; exact hQ') (fun _ => habs) hyt hst' hn'
   | false =>
    have q1 : l ≠ 0 := by simpa using q0
    refine Brn (neB (by omega)) ?_
    rw [if_neg (by rw [q0]; simp)] at hQ'
    cases f' with
    | some p' => exact ropsF hst' hyt (hQ' _ _ hyt hst'.nil hn')
    | none => exact I.ops hl hst' hn' hyt (by rw [habs]; exact hQ')
theorem rx_lev (hV : V.Ok) {n : Nat} (I : ExR V n) {l : Nat} {g : Glob} {r : List Pk} {Qf : Out → Glob → Prop} (hl : l ≤ 3) (hst : RS V g none r) (hQ : RF V ax 27 g (gLev V.en (n + 1) l r) Qf) : EvF TT 113 [.ptr (some (V.p, 0)), .int .i64 (l : Int)] g Qf := by
 rw [gLev] at hQ
 refine w113 ?_
 cases q : (l == 3) with
 | true =>
  have q1 : l = 3 := by simpa using q
  subst q1
  rw [if_pos (by rfl)] at hQ
  exact Bo rfl (I.app hst (hQ.imp .refl fun d g' ht hq => ⟨d, ht, rfl, pback ht hq⟩))
 | false =>
  have q1 : l ≠ 3 := by simpa using q
  rw [if_neg (by rw [q]; simp)] at hQ
  refine Brn (neB (by omega)) ?_
  rw [wra (by omega)]
  refine I.lev (l := l + 1) (by omega) hst (RF.call (F := fun a r => gOps V.en n l a r) hQ .refl fun f' r' d g' ht hst' hn' hn'' he hQ' => ⟨d, ht, rfl, rsigns (by omega) ⟨_, sgns_ty l, rfl, ?_⟩⟩)
  cases f' with
  | some p' => exact ropsF hst' ht (hQ' _ _ ht hst'.nil hn')
  | none => exact I.ops (by omega) hst' hn' ht hQ'
end Go.Proofs.YtgmapdcdmomioaaGreatDoor.Pa
