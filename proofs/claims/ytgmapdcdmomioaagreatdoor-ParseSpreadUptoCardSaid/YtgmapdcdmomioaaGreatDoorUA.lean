/- Proved: both packages read a text alike (the law ParseReads, in plain words). The place of a first fault lies in the text; what was read is well formed (the law ParseTakes). The same tokens at other places, and before more of them, are read alike. How a text is cut that ends, or goes on after the end of a line. What functions of the program do, printed by wip/tools/sx/sx.py. What texts come to that hold a text: in brackets, in a function, in a let (the law ParseBrackets). The law ParseBrackets. Proved: a text in brackets, in a function, in a let is read as the text (the law ParseBrackets, in plain words). -/
import Derived.Test.YtgmapdcdmomioaaGreatDoorRU
set_option linter.all false
set_option autoImplicit false
set_option maxRecDepth 100000
namespace Go.Proofs.YtgmapdcdmomioaaGreatDoor.Pa
open Go Go.Proofs.YtgmapdcdmomioaaGreatDoor.Am
variable {s : Str} {g : Glob} {Qf : Out → Glob → Prop}
theorem lexF_err : ∀ (n a : Nat) (u : Str) (acc : List Pk) (b : Nat) (e : Int), u.length < n → lexF n a u acc = .err b e → e ≠ 0 ∧ b ≤ a + u.length
  | 0, _, _, _, _, _, h, _ => by omega
  | n + 1, a, u, acc, b, e, hn, h => by
    rw [lexF] at h
    have hsk := skipN_le u
    split at h
    · cases h
    · rename_i c r hd
      have hl : (c :: r).length = u.length - skipN u := by rw [← hd]; exact List.length_drop ..
      split at h
      · rename_i he
        have h0 : (tokF (c :: r)).2.2 = 0 := by
          unfold lexErr at he
          split at he
          · cases he
          · exact he
        obtain ⟨_, m1, m2⟩ := tokF_good (p := 0) (Int.le_refl _) h0
        have hld : ((c :: r).drop (tokF (c :: r)).2.1).length = (c :: r).length - (tokF (c :: r)).2.1 := List.length_drop ..
        obtain ⟨k1, k2⟩ := lexF_err n _ _ _ b e (by omega) h
        exact ⟨k1, by omega⟩
      · rename_i he
        injection h with h1 h2
        subst h1 h2
        exact ⟨he, by omega⟩
theorem lexAll_err {b : Nat} {e : Int} (h : lexAll s = .err b e) : e ≠ 0 ∧ b ≤ s.length := by
  unfold lexAll at h
  split at h
  · injection h with h1 h2
    subst h1 h2
    exact ⟨by decide, Nat.zero_le _⟩
  · obtain ⟨k1, k2⟩ := lexF_err _ _ _ _ _ _ (by omega) h
    exact ⟨k1, by omega⟩
theorem lexAll_good {l : List Pk} (h : lexAll s = .ok l) : (∀ t ∈ l, GoodTk t) ∧ l.length ≤ 4096 := by
  unfold lexAll at h
  split at h
  · cases h
  · exact lexF_good _ _ _ _ l (fun t ht => by cases ht) (by simp) h
inductive ParseR where
  | ok (v : Pg)
  | err (p e : Int)
def parseAll (s : Str) : ParseR :=
  match lexAll s with
  | .err a e => .err a e
  | .ok l => match gProg s.length (16 * l.length + 9) [] l with
    | .ok v _ => if limF (!flEx v.e) v = 0 then .ok v else .err 0 (limF (!flEx v.e) v)
    | .bad p => .err p 120
    | .oof => .err 0 0
def PEnd (Qf : Out → Glob → Prop) : ParseR → Prop
  | .ok v => ∀ d g', absPg d = v → HasTy TT 29 d → Qf (.val (ansT d 0 0)) g'
  | .err p e => ∀ g', Qf (.val (ansT zPg p e)) g'
theorem szTok : TT.size 43 = some 4 := by kernel_rfl
theorem byTok : TT.bytes 43 = some 40 := by kernel_rfl
theorem toks_ty {l : List Pk} (hg : ∀ t ∈ l, GoodTk t) (hl : l.length ≤ 4096) : HasTy TT 37 (slOf 4 (l.map pkD)) :=
  sl_ty undToks szTok (slfit byTok (by decide) (by rw [List.length_map]; omega)) fun x hx => by
    obtain ⟨t, ht, rfl⟩ := List.mem_map.1 hx
    exact ty_tok (hg t ht).str
theorem pgback {x : Dat} (hx : HasTy TT 29 x) (h : Qf (.val (ansT x 0 0)) g) : Qf (Out.val (Val.tuple [Val.d (Dat.agg [fld x 0, Dat.int IntKind.i64 (intOf (fld x 1)), Dat.str (strOf (fld x 2)), Dat.str (strOf (fld x 3)), Dat.int IntKind.i64 (intOf (fld x 4)), fld x 5, fld x 6, Dat.int IntKind.i64 (intOf (fld x 7))]), Val.d (Dat.int IntKind.i64 0), Val.d (Dat.int IntKind.i64 0)])) g := by
  obtain ⟨d1, k1, s1, r1, n1, a1, b1, p1, rfl, hd1, he1⟩ := prog_ty hx
  exact h
theorem pParse_ok (hs : s.length ≤ 2 ^ 40) (hQ : PEnd Qf (parseAll s)) : EvF TT 16 [.str s] g Qf := by
  unfold parseAll at hQ
  refine w16 hs (plex_ok hs ?_)
  cases hl : lexAll s with
  | err a e =>
    rw [hl] at hQ
    intro us hus
    exact ⟨.nil, .nil _ (by kernel_rfl), _, _, hus, Br_of (by simpa [bne] using (lexAll_err hl).1) (hQ g)⟩
  | ok l =>
    rw [hl] at hQ
    dsimp only at hQ
    obtain ⟨hg, hlen⟩ := lexAll_good hl
    intro us hus
    refine ⟨_, toks_ty hg hlen, _, _, hus, Br_no rfl ?_⟩
    refine parsed_ok (ts := l) (n := 16 * l.length + 9) (by rw [slOf_els]) (toks_ty hg hlen) hlen hg (Int.natCast_nonneg _) ?_
    cases hp : gProg s.length (16 * l.length + 9) [] l with
    | oof => exact absurd hp (gProg_ne _ (Nat.le_refl _))
    | bad p =>
      rw [hp] at hQ
      exact fun g' => ⟨zPg, zPg_ty, _, _, ⟨rfl, rfl, rfl, trivial⟩, Br_no rfl (Br_of rfl (hQ g'))⟩
    | ok v r' =>
      rw [hp] at hQ
      have hok := gProg_ok _ ⟨List.suffix_refl _, hg⟩ (by omega) (fun d hd => by cases hd) hp
      intro d g' hd ht
      refine ⟨d, ht, _, _, ⟨rfl, rfl, rfl, trivial⟩, Br_of rfl (limited_ok ht (by rw [hd]; exact hok.pre) ⟨_, rfl, ?_⟩)⟩
      rw [hd, nw_flEx _ hok.ok]
      refine Br_iff.2 ⟨fun q => ?_, fun q => pgback ht ?_⟩
      · have hQ : PEnd Qf (if limF (!flEx v.e) v = 0 then .ok v else .err 0 (limF (!flEx v.e) v)) := hQ
        rw [if_neg (by simpa [bne] using q)] at hQ
        exact hQ g'
      · have hQ : PEnd Qf (if limF (!flEx v.e) v = 0 then .ok v else .err 0 (limF (!flEx v.e) v)) := hQ
        rw [if_pos (by simpa [bne] using q)] at hQ
        exact hQ d g' hd ht
end Go.Proofs.YtgmapdcdmomioaaGreatDoor.Pa
namespace Go.Proofs.YtgmapdcdmomioaaGreatDoor.Pa
open Go Go.Proofs.YtgmapdcdmomioaaGreatDoor.Am
variable {en : Int} {X r r1 r' : List Pk} {α β : Type}
def Sf (X : List Pk) (en : Int) : Res α → Prop
  | .ok _ r => r <:+ X
  | .bad p => ∃ r, r <:+ X ∧ p = plK en r
  | .oof => True
structure SfX (X : List Pk) (en : Int) (n : Nat) : Prop where
  ex : ∀ {r}, r <:+ X → Sf X en (gEx en n r)
  lt : ∀ {e r}, r <:+ X → Sf X en (gLet en n e r)
  br : ∀ {e r}, r <:+ X → Sf X en (gBr en n e r)
  lev : ∀ {l r}, r <:+ X → Sf X en (gLev en n l r)
  ops : ∀ {l e r}, r <:+ X → Sf X en (gOps en n l e r)
  app : ∀ {r}, r <:+ X → Sf X en (gApp en n r)
  con : ∀ {e r}, r <:+ X → Sf X en (gConArgs en n e r)
  args : ∀ {e r}, r <:+ X → Sf X en (gAppArgs en n e r)
  atom : ∀ {r}, r <:+ X → Sf X en (gAtom en n r)
variable {s : Str} {g : Glob} {Qf : Out → Glob → Prop}
theorem parseAll_ne {p e : Int} (h : parseAll s = .err p e) : e ≠ 0 := by
  unfold parseAll at h
  split at h
  · rename_i a e' hl
    injection h with h1 h2
    subst h2
    exact (lexAll_err hl).1
  · rename_i l hl
    split at h
    · split at h
      · cases h
      · rename_i h0
        injection h with h1 h2
        subst h2
        exact h0
    · injection h with h1 h2
      subst h2
      decide
    · rename_i hq
      exact absurd hq (gProg_ne _ (Nat.le_refl _))
end Go.Proofs.YtgmapdcdmomioaaGreatDoor.Pa
namespace Go.Proofs.YtgmapdcdmomioaaGreatDoor.Pa
open Go Go.Proofs.YtgmapdcdmomioaaGreatDoor.Am
def RelK (P : Int → Int → Prop) : List Pk → List Pk → Prop
  | [], [] => True
  | t :: r, u :: s => u.1 = t.1 ∧ P t.2 u.2 ∧ RelK P r s
  | _, _ => False
mutual
def ptW (P : Int → Int → Prop) : Pt → Pt → Prop
  | .mk k s n a p, .mk k' s' n' a' p' => k = k' ∧ s = s' ∧ n = n' ∧ ptsW P a a' ∧ P p p'
def ptsW (P : Int → Int → Prop) : List Pt → List Pt → Prop
  | [], [] => True
  | x :: l, y :: m => ptW P x y ∧ ptsW P l m
  | _, _ => False
end
mutual
def exW (P : Int → Int → Prop) : Ex' → Ex' → Prop
  | .mk k s u n a b p, .mk k' s' u' n' a' b' p' => k = k' ∧ s = s' ∧ u = u' ∧ n = n' ∧ exsW P a a' ∧ ptsW P b b' ∧ P p p'
def exsW (P : Int → Int → Prop) : List Ex' → List Ex' → Prop
  | [], [] => True
  | x :: l, y :: m => exW P x y ∧ exsW P l m
  | _, _ => False
end
variable {P : Int → Int → Prop} {en en' : Int} {r r0 r1 r' X : List Pk} {α β : Type}
theorem e0W : exsW P [] [] := by simp only [exsW]
theorem p0W : ptsW P [] [] := by simp only [ptsW]
theorem ecW {x y : Ex'} {l m : List Ex'} (h : exW P x y) (h' : exsW P l m) : exsW P (x :: l) (y :: m) := by simp only [exsW]; exact ⟨h, h'⟩
theorem pcW {x y : Pt} {l m : List Pt} (h : ptW P x y) (h' : ptsW P l m) : ptsW P (x :: l) (y :: m) := by simp only [ptsW]; exact ⟨h, h'⟩
theorem mkW {k : Int} {s u : Str} {n : Int} {a a' : List Ex'} {b b' : List Pt} {p p' : Int} (ha : exsW P a a') (hb : ptsW P b b') (hp : P p p') : exW P (.mk k s u n a b p) (.mk k s u n a' b' p') := by
  simp only [exW]
  exact ⟨trivial, trivial, trivial, trivial, ha, hb, hp⟩
theorem ptsW_app : ∀ {a a' : List Pt} {x x' : Pt}, ptsW P a a' → ptW P x x' → ptsW P (a ++ [x]) (a' ++ [x'])
  | [], [], _, _, _, h => by simp only [List.nil_append, ptsW]; exact ⟨h, trivial⟩
  | x :: a, y :: b, _, _, h, h' => by
    simp only [List.cons_append, ptsW] at h ⊢
    exact ⟨h.1, ptsW_app h.2 h'⟩
  | [], _ :: _, _, _, h, _ => by simp [ptsW] at h
  | _ :: _, [], _, _, h, _ => by simp [ptsW] at h
theorem exsW_app : ∀ {a a' : List Ex'} {x x' : Ex'}, exsW P a a' → exW P x x' → exsW P (a ++ [x]) (a' ++ [x'])
  | [], [], _, _, _, h => by simp only [List.nil_append, exsW]; exact ⟨h, trivial⟩
  | x :: a, y :: b, _, _, h, h' => by
    simp only [List.cons_append, exsW] at h ⊢
    exact ⟨h.1, exsW_app h.2 h'⟩
  | [], _ :: _, _, _, h, _ => by simp [exsW] at h
  | _ :: _, [], _, _, h, _ => by simp [exsW] at h
theorem ptAddR {t t' u u' : Pt} (h : ptW P t t') (h' : ptW P u u') : ptW P (ptAdd t u) (ptAdd t' u') := by
  cases t; cases t'
  simp only [ptAdd, ptW] at h ⊢
  exact ⟨h.1, h.2.1, h.2.2.1, ptsW_app h.2.2.2.1 h', h.2.2.2.2⟩
theorem exAddR {t t' u u' : Ex'} (h : exW P t t') (h' : exW P u u') : exW P (exAdd t u) (exAdd t' u') := by
  cases t; cases t'
  simp only [exAdd, exW] at h ⊢
  exact ⟨h.1, h.2.1, h.2.2.1, h.2.2.2.1, exsW_app h.2.2.2.2.1 h', h.2.2.2.2.2⟩
theorem exPatR {t t' : Ex'} {u u' : Pt} (h : exW P t t') (h' : ptW P u u') : exW P (exPat t u) (exPat t' u') := by
  cases t; cases t'
  simp only [exPat, exW] at h ⊢
  exact ⟨h.1, h.2.1, h.2.2.1, h.2.2.2.1, h.2.2.2.2.1, ptsW_app h.2.2.2.2.2.1 h', h.2.2.2.2.2.2⟩
theorem exAtR {t t' : Ex'} (h : exW P t t') : P (exAt t) (exAt t') := by
  cases t; cases t'
  simp only [exW] at h
  exact h.2.2.2.2.2.2
def RR (P : Int → Int → Prop) (X : List Pk) (V : α → α → Prop) : Res α → Res α → Prop
  | .ok v r', x => ∃ v' r0', x = .ok v' (r0' ++ X) ∧ V v v' ∧ RelK P r' r0'
  | _, _ => True
variable {V : α → α → Prop} {W : β → β → Prop}
theorem RR.ok {v v' : α} (h : V v v') (hr : RelK P r r0) : RR P X V (.ok v r) (.ok v' (r0 ++ X)) := ⟨v', r0, rfl, h, hr⟩
theorem RR.bind {a b : Res α} {f f' : α → List Pk → Res β} (h : RR P X V a b) (k : ∀ v v' r r0, V v v' → RelK P r r0 → RR P X W (f v r) (f' v' (r0 ++ X))) : RR P X W (a.bind f) (b.bind f') := by
  cases a with
  | ok v r =>
    obtain ⟨v', r0', rfl, hv, hr⟩ := h
    exact k _ _ _ _ hv hr
  | bad p => trivial
  | oof => trivial
structure Hd (P : Int → Int → Prop) (X : List Pk) (en en' : Int) (r r0 : List Pk) : Prop where
  kd : kdK (r0 ++ X) = kdK r
  tx : txK (r0 ++ X) = txK r
  nm : nmK (r0 ++ X) = nmK r
  pl : P (plK en r) (plK en' (r0 ++ X))
  tl : (r0 ++ X).tail = r0.tail ++ X
  rel : RelK P r.tail r0.tail
theorem hd_ne (h : RelK P r r0) (hr : r ≠ []) : Hd P X en en' r r0 := by
  match r, r0, h, hr with
  | t :: r, u :: r0, h, _ =>
    obtain ⟨h1, h2, h3⟩ := h
    exact ⟨by simp [kdK, h1], by simp [txK, h1], by simp [nmK, h1], h2, rfl, h3⟩
theorem ne_kd {k : Int} (hk : k ≠ 0) (q : (kdK r == k) = true) : r ≠ [] := by
  rintro rfl
  exact ne_nil hk q rfl
theorem ne_is {k : Int} {s : Str} (hk : k ≠ 0) (q : isK' k s r = true) : r ≠ [] := by
  unfold isK' at q
  rw [Bool.and_eq_true] at q
  exact ne_kd hk q.1
theorem rr_need {k : Int} {s : Str} (hk : k ≠ 0) (h : RelK P r r0) : RR P X (fun _ _ => True) (need en k s r) (need en' k s (r0 ++ X)) := by
  unfold need
  by_cases q : isK' k s r = true
  · have d : Hd P X en en' r r0 := hd_ne h (ne_is hk q)
    have : isK' k s (r0 ++ X) = true := by simpa [isK', d.kd, d.tx] using q
    rw [if_pos q, if_pos this, d.tl]
    exact .ok trivial d.rel
  · rw [if_neg q]
    trivial
theorem rr_word {k : Int} (hk : k ≠ 0) (h : RelK P r r0) : RR P X (fun a b => b = a) (word1 en k r) (word1 en' k (r0 ++ X)) := by
  unfold word1
  by_cases q : (kdK r == k) = true
  · have d : Hd P X en en' r r0 := hd_ne h (ne_kd hk q)
    rw [if_pos q, d.kd, if_pos q, d.tl, d.tx]
    exact .ok rfl d.rel
  · rw [if_neg q]
    trivial
def Stop : List Pk → Prop
  | [] => True
  | t :: _ => (t.1.1 = 6 ∧ t.1.2.1 = sClose) ∨ (t.1.1 = 5 ∧ t.1.2.1 = kIn)
theorem kd_eq (hX : Stop X) (h : RelK P r r0) {k : Int} (hk : (k == 1 || k == 2 || k == 3 || k == 4) = true) : (kdK (r0 ++ X) == k) = (kdK r == k) := by
  match r, r0, h with
  | t :: r, u :: r0, h =>
    obtain ⟨h1, h2, h3⟩ := h
    simp [kdK, h1]
  | [], [], _ =>
    have hk : k = 1 ∨ k = 2 ∨ k = 3 ∨ k = 4 := by simpa [or_assoc] using hk
    match X, hX with
    | [], _ => rfl
    | t :: X, hX =>
      have : t.1.1 = 6 ∨ t.1.1 = 5 := hX.imp (·.1) (·.1)
      show (t.1.1 == k) = ((0 : Int) == k)
      rw [Bool.eq_iff_iff, beq_iff_eq, beq_iff_eq]
      omega
theorem is_eq (hX : Stop X) (h : RelK P r r0) {k : Int} {s : Str} (hk : ((k == 6 && s != sClose) || (k == 5 && s != kIn)) = true) : isK' k s (r0 ++ X) = isK' k s r := by
  match r, r0, h with
  | t :: r, u :: r0, h =>
    obtain ⟨h1, h2, h3⟩ := h
    simp [isK', kdK, txK, h1]
  | [], [], _ =>
    have hk : (k = 6 ∧ s ≠ sClose) ∨ (k = 5 ∧ s ≠ kIn) := by simpa using hk
    have e0 : isK' k s [] = false := by
      rcases hk with ⟨rfl, _⟩ | ⟨rfl, _⟩ <;> rfl
    rw [e0]
    match X, hX with
    | [], _ => exact e0
    | t :: X, hX =>
      show (t.1.1 == k && t.1.2.1 == s) = false
      rcases hX with ⟨e1, e2⟩ | ⟨e1, e2⟩ <;> rw [e1, e2] <;> rcases hk with ⟨rfl, hs⟩ | ⟨rfl, hs⟩
      · simpa using fun e => hs e.symm
      · rfl
      · rfl
      · simpa using fun e => hs e.symm
theorem sg_eq (hX : Stop X) (h : RelK P r r0) {l : Nat} : sgNext l (r0 ++ X) = sgNext l r := by
  match r, r0, h with
  | t :: r, u :: r0, h =>
    obtain ⟨h1, h2, h3⟩ := h
    simp [sgNext, kdK, txK, h1]
  | [], [], _ =>
    have e0 : sgNext l [] = false := rfl
    rw [e0]
    match X, hX with
    | [], _ => rfl
    | t :: X, hX =>
      show (t.1.1 == 6 && (sgns l).any fun s => s == t.1.2.1) = false
      rcases hX with ⟨e1, e2⟩ | ⟨e1, e2⟩
      · rw [e1, e2]
        match l with
        | 0 => decide
        | 1 => decide
        | _ + 2 => rfl
      · rw [e1]
        rfl
theorem ty_eq (hX : Stop X) (h : RelK P r r0) : tyNext (r0 ++ X) = tyNext r := by
  unfold tyNext
  rw [kd_eq hX h (by decide), kd_eq hX h (by decide), is_eq hX h (by decide)]
theorem at_eq (hX : Stop X) (h : RelK P r r0) : atNext (r0 ++ X) = atNext r := by
  unfold atNext
  rw [kd_eq hX h (by decide), kd_eq hX h (by decide), kd_eq hX h (by decide), is_eq hX h (by decide)]
theorem rr_ty (hX : Stop X) : ∀ n : Nat, (∀ m r r0, n ≤ m → RelK P r r0 → RR P X (fun a b => b = a) (gTyp en n r) (gTyp en' m (r0 ++ X))) ∧ (∀ m r r0, n ≤ m → RelK P r r0 → RR P X (fun a b => b = a) (gTyapp en n r) (gTyapp en' m (r0 ++ X))) ∧
    (∀ m (t : Ty) r r0, n ≤ m → RelK P r r0 → RR P X (fun a b => b = a) (gTyArgs en n t r) (gTyArgs en' m t (r0 ++ X))) ∧ (∀ m r r0, n ≤ m → RelK P r r0 → RR P X (fun a b => b = a) (gTyatom en n r) (gTyatom en' m (r0 ++ X)))
  | 0 => ⟨fun _ _ _ _ _ => trivial, fun _ _ _ _ _ => trivial, fun _ _ _ _ _ _ => trivial, fun _ _ _ _ _ => trivial⟩
  | n + 1 => by
    obtain ⟨i1, i2, i3, i4⟩ := rr_ty hX n
    refine ⟨fun m r r0 hm h => ?_, fun m r r0 hm h => ?_, fun m t r r0 hm h => ?_, fun m r r0 hm h => ?_⟩ <;> obtain ⟨m, rfl⟩ : ∃ k, m = k + 1 := ⟨m - 1, by omega⟩ <;> have hm : n ≤ m := by omega
    · rw [gTyp, gTyp]
      refine (i2 _ _ _ hm h).bind fun t t' r r0 e h => ?_
      subst e
      rw [is_eq hX h (by decide)]
      split
      · rename_i q
        have d : Hd P X en en' r r0 := hd_ne h (ne_is (by decide) q)
        rw [d.tl]
        exact (i1 _ _ _ hm d.rel).bind fun _ _ _ _ e h => .ok (by rw [e]) h
      · exact .ok rfl h
    · rw [gTyapp, gTyapp, kd_eq hX h (by decide)]
      split
      · rename_i q
        have d : Hd P X en en' r r0 := hd_ne h (ne_kd (by decide) q)
        rw [d.tl, d.tx]
        exact i3 _ _ _ _ hm d.rel
      · exact i4 _ _ _ hm h
    · rw [gTyArgs, gTyArgs, ty_eq hX h]
      split
      · split
        · exact (i4 _ _ _ hm h).bind fun _ _ _ _ e h => by subst e; exact i3 _ _ _ _ hm h
        · trivial
      · exact .ok rfl h
    · rw [gTyatom, gTyatom, kd_eq hX h (by decide), kd_eq hX h (by decide)]
      split
      · rename_i q
        have d : Hd P X en en' r r0 := hd_ne h (ne_kd (by decide) q)
        rw [d.tl, d.tx]
        exact .ok rfl d.rel
      · split
        · rename_i q
          have d : Hd P X en en' r r0 := hd_ne h (ne_kd (by decide) q)
          rw [d.tl, d.tx]
          exact .ok rfl d.rel
        · exact (rr_need (by decide) h).bind fun _ _ _ _ _ h => (i1 _ _ _ hm h).bind fun _ _ _ _ e h => (rr_need (by decide) h).bind fun _ _ _ _ _ h => .ok e h
theorem ptW_mk {k : Int} {s : Str} {n : Int} {p p' : Int} (h : P p p') : ptW P (.mk k s n [] p) (.mk k s n [] p') := by simp [ptW, ptsW, h]
theorem rr_pt (hX : Stop X) : ∀ n : Nat, (∀ m r r0, n ≤ m → RelK P r r0 → RR P X (ptW P) (gPat en n r) (gPat en' m (r0 ++ X))) ∧
    (∀ m (t t' : Pt) r r0, n ≤ m → ptW P t t' → RelK P r r0 → RR P X (ptW P) (gPatArgs en n t r) (gPatArgs en' m t' (r0 ++ X))) ∧ (∀ m r r0, n ≤ m → RelK P r r0 → RR P X (ptW P) (gPatom en n r) (gPatom en' m (r0 ++ X)))
  | 0 => ⟨fun _ _ _ _ _ => trivial, fun _ _ _ _ _ _ _ _ => trivial, fun _ _ _ _ _ => trivial⟩
  | n + 1 => by
    obtain ⟨i1, i3, i4⟩ := rr_pt hX n
    refine ⟨fun m r r0 hm h => ?_, fun m t t' r r0 hm ht h => ?_, fun m r r0 hm h => ?_⟩ <;> obtain ⟨m, rfl⟩ : ∃ k, m = k + 1 := ⟨m - 1, by omega⟩ <;> have hm : n ≤ m := by omega
    · rw [gPat, gPat, kd_eq hX h (by decide)]
      split
      · rename_i q
        have d : Hd P X en en' r r0 := hd_ne h (ne_kd (by decide) q)
        rw [d.tl, d.tx, d.nm]
        exact i3 _ _ _ _ _ hm (ptW_mk d.pl) d.rel
      · exact i4 _ _ _ hm h
    · rw [gPatArgs, gPatArgs, at_eq hX h, is_eq hX h (by decide)]
      split
      · exact (i4 _ _ _ hm h).bind fun _ _ _ _ e h => i3 _ _ _ _ _ hm (ptAddR ht e) h
      · exact .ok ht h
    · rw [gPatom, gPatom, kd_eq hX h (by decide), kd_eq hX h (by decide), kd_eq hX h (by decide), is_eq hX h (by decide)]
      split
      · rename_i q
        have d : Hd P X en en' r r0 := hd_ne h (ne_kd (by decide) q)
        rw [d.tl, d.tx, d.nm]
        exact .ok (ptW_mk d.pl) d.rel
      · split
        · rename_i q
          have d : Hd P X en en' r r0 := hd_ne h (ne_is (by decide) q)
          rw [d.tl, d.nm]
          exact .ok (ptW_mk d.pl) d.rel
        · split
          · rename_i q
            have d : Hd P X en en' r r0 := hd_ne h (ne_kd (by decide) q)
            rw [d.tl, d.tx, d.nm]
            exact .ok (ptW_mk d.pl) d.rel
          · split
            · rename_i q
              have d : Hd P X en en' r r0 := hd_ne h (ne_kd (by decide) q)
              rw [d.tl, d.tx, d.nm]
              exact .ok (ptW_mk d.pl) d.rel
            · exact (rr_need (by decide) h).bind fun _ _ _ _ _ h => (i1 _ _ _ hm h).bind fun _ _ _ _ e h => (rr_need (by decide) h).bind fun _ _ _ _ _ h => .ok e h
theorem con0R {s : Str} {p p' : Int} (h : P p p') : ptW P (con0 s p) (con0 s p') := ptW_mk h
theorem ex9R {s : Str} {e e' b b' : Ex'} (he : exW P e e') (hb : exW P b b') : exW P (.mk 9 s [] 0 [e, b] [] (exAt e)) (.mk 9 s [] 0 [e', b'] [] (exAt e')) := by
  exact mkW (ecW he (ecW hb e0W)) p0W (exAtR he)
structure RX (P : Int → Int → Prop) (X : List Pk) (en en' : Int) (n : Nat) : Prop where
  ex : ∀ {m r r0}, n ≤ m → RelK P r r0 → RR P X (exW P) (gEx en n r) (gEx en' m (r0 ++ X))
  lt : ∀ {m e e' r r0}, n ≤ m → exW P e e' → RelK P r r0 → RR P X (exW P) (gLet en n e r) (gLet en' m e' (r0 ++ X))
  br : ∀ {m e e' r r0}, n ≤ m → exW P e e' → RelK P r r0 → RR P X (exW P) (gBr en n e r) (gBr en' m e' (r0 ++ X))
  lev : ∀ {m l r r0}, n ≤ m → RelK P r r0 → RR P X (exW P) (gLev en n l r) (gLev en' m l (r0 ++ X))
  ops : ∀ {m l e e' r r0}, n ≤ m → exW P e e' → RelK P r r0 → RR P X (exW P) (gOps en n l e r) (gOps en' m l e' (r0 ++ X))
  app : ∀ {m r r0}, n ≤ m → RelK P r r0 → RR P X (exW P) (gApp en n r) (gApp en' m (r0 ++ X))
  con : ∀ {m e e' r r0}, n ≤ m → exW P e e' → RelK P r r0 → RR P X (exW P) (gConArgs en n e r) (gConArgs en' m e' (r0 ++ X))
  args : ∀ {m e e' r r0}, n ≤ m → exW P e e' → RelK P r r0 → RR P X (exW P) (gAppArgs en n e r) (gAppArgs en' m e' (r0 ++ X))
  atom : ∀ {m r r0}, n ≤ m → RelK P r r0 → RR P X (exW P) (gAtom en n r) (gAtom en' m (r0 ++ X))
theorem rr_ex (hX : Stop X) : ∀ n : Nat, RX P X en en' n
  | 0 => by constructor <;> intros <;> simp [gEx, gLet, gBr, gLev, gOps, gApp, gConArgs, gAppArgs, gAtom, RR]
  | n + 1 => by
    have I : RX P X en en' n := rr_ex hX n
    have Q := (rr_pt (en := en) (en' := en') (P := P) hX n).1
    constructor
    · intro m r r0 hm h
      obtain ⟨m, rfl⟩ : ∃ k, m = k + 1 := ⟨m - 1, by omega⟩
      have hm : n ≤ m := by omega
      rw [gEx, gEx]
      rw [is_eq hX h (by decide), is_eq hX h (by decide), is_eq hX h (by decide), is_eq hX h (by decide)]
      split
      · rename_i q
        have d : Hd P X en en' r r0 := hd_ne h (ne_is (by decide) q)
        rw [d.tl]
        exact (rr_word (by decide) d.rel).bind fun x x' _ _ e h => (rr_need (by decide) h).bind fun _ _ _ _ _ h => (I.ex hm h).bind fun _ _ _ _ he h => .ok (by subst e; exact mkW (ecW he e0W) p0W d.pl) h
      · split
        · rename_i q
          have d : Hd P X en en' r r0 := hd_ne h (ne_is (by decide) q)
          rw [d.tl, is_eq hX d.rel (by decide)]
          split
          · rename_i q2
            have d2 : Hd P X en en' r.tail r0.tail := hd_ne d.rel (ne_is (by decide) q2)
            rw [d2.tl]
            exact (rr_word (by decide) d2.rel).bind fun x x' _ _ e h => (rr_word (by decide) h).bind fun y y' _ _ e2 h => I.lt hm (by subst e e2; exact mkW e0W p0W d.pl) h
          · exact (rr_word (by decide) d.rel).bind fun x x' _ _ e h => I.lt hm (by subst e; exact mkW e0W p0W d.pl) h
        · split
          · rename_i q
            have d : Hd P X en en' r r0 := hd_ne h (ne_is (by decide) q)
            rw [d.tl]
            exact (I.ex hm d.rel).bind fun _ _ _ _ ha h => (rr_need (by decide) h).bind fun _ _ _ _ _ h => (I.ex hm h).bind fun _ _ _ _ hb h => (rr_need (by decide) h).bind fun _ _ _ _ _ h => (I.ex hm h).bind fun _ _ _ _ hc h =>
              .ok (mkW (ecW ha (ecW hb (ecW hc e0W))) (pcW (con0R d.pl) (pcW (con0R d.pl) p0W)) d.pl) h
          · split
            · rename_i q
              have d : Hd P X en en' r r0 := hd_ne h (ne_is (by decide) q)
              rw [d.tl]
              exact (I.ex hm d.rel).bind fun _ _ _ _ ha h => (rr_need (by decide) h).bind fun _ _ _ _ _ h => I.br hm (mkW (ecW ha e0W) p0W d.pl) h
            · refine (I.lev hm h).bind fun a a' r r0 ha h => ?_
              rw [is_eq hX h (by decide)]
              split
              · rename_i q
                have d : Hd P X en en' r r0 := hd_ne h (ne_is (by decide) q)
                rw [d.tl]
                exact (I.ex hm d.rel).bind fun _ _ _ _ hb h => .ok (mkW (ecW ha (ecW hb e0W)) (pcW (con0R (exAtR ha)) p0W) (exAtR ha)) h
              · exact .ok ha h
    · intro m e e' r r0 hm he h
      obtain ⟨m, rfl⟩ : ∃ k, m = k + 1 := ⟨m - 1, by omega⟩
      have hm : n ≤ m := by omega
      rw [gLet, gLet]
      exact (rr_need (by decide) h).bind fun _ _ _ _ _ h => (I.ex hm h).bind fun _ _ _ _ ha h => (rr_need (by decide) h).bind fun _ _ _ _ _ h => (I.ex hm h).bind fun _ _ _ _ hb h => .ok (exAddR (exAddR he ha) hb) h
    · intro m e e' r r0 hm he h
      obtain ⟨m, rfl⟩ : ∃ k, m = k + 1 := ⟨m - 1, by omega⟩
      have hm : n ≤ m := by omega
      rw [gBr, gBr]
      refine (Q _ _ _ hm h).bind fun _ _ _ _ hx h => (rr_need (by decide) h).bind fun _ _ _ _ _ h => (I.ex hm h).bind fun _ _ r r0 ha h => ?_
      have hv := exAddR (exPatR he hx) ha
      rw [is_eq hX h (by decide)]
      split
      · rename_i q
        have d : Hd P X en en' r r0 := hd_ne h (ne_is (by decide) q)
        rw [d.tl]
        exact I.br hm hv d.rel
      · exact (rr_need (by decide) h).bind fun _ _ _ _ _ h => .ok hv h
    · intro m l r r0 hm h
      obtain ⟨m, rfl⟩ : ∃ k, m = k + 1 := ⟨m - 1, by omega⟩
      have hm : n ≤ m := by omega
      rw [gLev, gLev]
      split
      · exact I.app hm h
      · exact (I.lev hm h).bind fun _ _ _ _ ha h => I.ops hm ha h
    · intro m l e e' r r0 hm he h
      obtain ⟨m, rfl⟩ : ∃ k, m = k + 1 := ⟨m - 1, by omega⟩
      have hm : n ≤ m := by omega
      rw [gOps, gOps, sg_eq hX h]
      split
      · rename_i q
        have d : Hd P X en en' r r0 := hd_ne h (ne_kd (k := 6) (by decide) (by unfold sgNext at q; rw [Bool.and_eq_true] at q; exact q.1))
        rw [d.tl, d.tx]
        refine (I.lev hm d.rel).bind fun _ _ _ _ hb h => ?_
        have hv := ex9R (s := txK r) he hb
        split
        · exact .ok hv h
        · exact I.ops hm hv h
      · exact .ok he h
    · intro m r r0 hm h
      obtain ⟨m, rfl⟩ : ∃ k, m = k + 1 := ⟨m - 1, by omega⟩
      have hm : n ≤ m := by omega
      rw [gApp, gApp, kd_eq hX h (by decide), is_eq hX h (by decide)]
      split
      · exact (I.atom hm h).bind fun _ _ _ _ ha h => I.con hm ha h
      · split
        · rename_i q
          have d : Hd P X en en' r r0 := hd_ne h (ne_is (by decide) q)
          rw [d.tl]
          exact (I.atom hm d.rel).bind fun _ _ _ _ ha h => .ok (mkW (ecW ha e0W) p0W d.pl) h
        · exact (I.atom hm h).bind fun _ _ _ _ ha h => I.args hm ha h
    · intro m e e' r r0 hm he h
      obtain ⟨m, rfl⟩ : ∃ k, m = k + 1 := ⟨m - 1, by omega⟩
      have hm : n ≤ m := by omega
      rw [gConArgs, gConArgs, at_eq hX h]
      split
      · exact (I.atom hm h).bind fun _ _ _ _ ha h => I.con hm (exAddR he ha) h
      · exact .ok he h
    · intro m e e' r r0 hm he h
      obtain ⟨m, rfl⟩ : ∃ k, m = k + 1 := ⟨m - 1, by omega⟩
      have hm : n ≤ m := by omega
      rw [gAppArgs, gAppArgs, at_eq hX h]
      split
      · exact (I.atom hm h).bind fun _ _ _ _ ha h => I.args hm (mkW (ecW he (ecW ha e0W)) p0W (exAtR he)) h
      · exact .ok he h
    · intro m r r0 hm h
      obtain ⟨m, rfl⟩ : ∃ k, m = k + 1 := ⟨m - 1, by omega⟩
      have hm : n ≤ m := by omega
      have mk : ∀ {k : Int} {s : Str} {n p p' : Int}, P p p' → exW P (.mk k s [] n [] [] p) (.mk k s [] n [] [] p') := fun hp => mkW e0W p0W hp
      rw [gAtom, gAtom, kd_eq hX h (by decide), kd_eq hX h (by decide), kd_eq hX h (by decide)]
      split
      · rename_i q
        have d : Hd P X en en' r r0 := hd_ne h (ne_kd (by decide) q)
        rw [d.tl, d.tx, d.nm]
        exact .ok (mk d.pl) d.rel
      · split
        · rename_i q
          have d : Hd P X en en' r r0 := hd_ne h (ne_kd (by decide) q)
          rw [d.tl, d.tx, d.nm]
          exact .ok (mk d.pl) d.rel
        · split
          · rename_i q
            have d : Hd P X en en' r r0 := hd_ne h (ne_kd (by decide) q)
            rw [d.tl, d.tx, d.nm]
            exact .ok (mk d.pl) d.rel
          · exact (rr_need (by decide) h).bind fun _ _ _ _ _ h => (I.ex hm h).bind fun _ _ _ _ ha h => (rr_need (by decide) h).bind fun _ _ _ _ _ h => .ok ha h
end Go.Proofs.YtgmapdcdmomioaaGreatDoor.Pa
namespace Go.Proofs.YtgmapdcdmomioaaGreatDoor.Pa
open Go Go.Proofs.YtgmapdcdmomioaaGreatDoor.Am
variable {u w : Str} {a n m : Nat} {l acc : List Pk}
theorem lexF_fuel : ∀ (n m a : Nat) (u : Str) (acc : List Pk), u.length < n → u.length < m → lexF n a u acc = lexF m a u acc
  | 0, _, _, _, _, h, _ => by omega
  | n + 1, 0, _, _, _, _, h => by omega
  | n + 1, m + 1, a, u, acc, hn, hm => by
    rw [lexF, lexF]
    have hsk := skipN_le u
    split
    · rfl
    · rename_i c r hd
      have hl : (c :: r).length = u.length - skipN u := by rw [← hd]; exact List.length_drop ..
      split
      · rename_i he
        have h0 : (tokF (c :: r)).2.2 = 0 := by
          unfold lexErr at he
          split at he
          · cases he
          · exact he
        obtain ⟨_, m1, m2⟩ := tokF_good (p := 0) (Int.le_refl _) h0
        have hld : ((c :: r).drop (tokF (c :: r)).2.1).length = (c :: r).length - (tokF (c :: r)).2.1 := List.length_drop ..
        exact lexF_fuel n m _ _ _ (by omega) (by omega)
      · rfl
def lexA (a : Nat) (u : Str) (acc : List Pk) : LexR := lexF (u.length + 1) a u acc
theorem lexA_of (h : u.length < n) : lexF n a u acc = lexA a u acc := lexF_fuel _ _ _ _ _ h (Nat.lt_succ_self _)
theorem lexA_end (h : u.drop (skipN u) = []) : lexA a u acc = .ok acc := by
  unfold lexA
  rw [lexF, h]
theorem lexA_tok {c : UInt8} {r : Str} (h : u.drop (skipN u) = c :: r) (he : lexErr (tokF (c :: r)).2.2 acc.length = 0) : lexA a u acc = lexA (a + skipN u + (tokF (c :: r)).2.1) ((c :: r).drop (tokF (c :: r)).2.1) (acc ++ [((tokF (c :: r)).1, ((a + skipN u : Nat) : Int))]) := by
  have hsk := skipN_le u
  have hl : (c :: r).length = u.length - skipN u := by rw [← h]; exact List.length_drop ..
  have h0 : (tokF (c :: r)).2.2 = 0 := by
    unfold lexErr at he
    split at he
    · cases he
    · exact he
  obtain ⟨_, m1, m2⟩ := tokF_good (p := 0) (Int.le_refl _) h0
  have hld : ((c :: r).drop (tokF (c :: r)).2.1).length = (c :: r).length - (tokF (c :: r)).2.1 := List.length_drop ..
  have e0 : lexA a u acc = lexF (u.length + 1) a u acc := rfl
  rw [e0, lexF, h]
  dsimp only
  rw [if_pos he]
  have hc : (c :: r).length = r.length + 1 := List.length_cons
  exact lexA_of (by omega)
theorem lexA_err {c : UInt8} {r : Str} (h : u.drop (skipN u) = c :: r) (he : lexErr (tokF (c :: r)).2.2 acc.length ≠ 0) : lexA a u acc = .err (a + skipN u) (lexErr (tokF (c :: r)).2.2 acc.length) := by
  unfold lexA
  rw [lexF, h]
  dsimp only
  rw [if_neg he]
theorem relK_len {P : Int → Int → Prop} : ∀ {l l' : List Pk}, RelK P l l' → l'.length = l.length
  | [], [], _ => rfl
  | _ :: _, _ :: _, h => by rw [List.length_cons, List.length_cons, relK_len h.2.2]
end Go.Proofs.YtgmapdcdmomioaaGreatDoor.Pa
namespace Go.Proofs.YtgmapdcdmomioaaGreatDoor.Pa
open Go Go.Proofs.YtgmapdcdmomioaaGreatDoor.Am
def L4_6 (s0 : List UInt8) (y3 : Dat) (g : Glob) (Qf : Out → Glob → Prop) : Prop := CutP TT Tryz.f4 [1, 1, 1, 1] Qf (mkC TT 4 Tryz.f4 1 [(0, .v 9 (.str s0)), (3, .loc 3 0 0)] [(3, .whole 29 y3)] g)
def lo4 : List CutI := []
def jo4 : List CutI := [⟨6, [(0, .keep), (3, .keep)], [(3, .whole 29)]⟩, ⟨9, [(3, .keep), (6, .keep), (8, .keep), (9, .keep), (11, .keep), (12, .keep), (14, .keep)], [(12, .whole 29), (9, .whole 29), (6, .whole 29), (3, .whole 29)]⟩, ⟨11, [(3, .keep), (9, .keep), (11, .keep), (12, .keep), (14, .keep)], [(12, .whole 29), (9, .whole 29), (3, .whole 29)]⟩, ⟨13, [(11, .keep), (14, .keep)], []⟩]
theorem w4 {s0 : List UInt8} {g : Glob} {Qf : Out → Glob → Prop} (h0 : s0.length ≤ 2 ^ 40)
    (h : Br (decide (4000 < (↑s0.length : Int))) (EvF TT 15 [] g fun out g' => Outc (fun x => Qf (.panic x) g') (fun v => ∃ b, v = .d (.bool b) ∧ Qf (.val (.d (.bool b))) g') out) (EvF TT 16 [.str s0] g fun out g' => Outc (fun x => Qf (.panic x) g') (fun v => ∃ x, HasTy TT 29 x ∧ ∃ n n_1, RetT v [x, .int .i64 n, .int .i64 n_1] ∧ Br (n_1 != 0) (Br (n_1 == 0) (EvF TT 15 [] g' fun out g' => Outc (fun x => Qf (.panic x) g') (fun v => ∃ b, v = .d (.bool b) ∧ Qf (.val (.d (.bool b))) g') out) (EvF TT 18 [x, .agg [.nil, .int .i64 0, .str [], .str [], .int .i64 0, .nil, .nil, .int .i64 0], .bool true] g' fun out g' => Outc (fun x => Qf (.panic x) g') (fun v => ∃ b, v = .d (.bool b) ∧ Br b (EvF TT 15 [] g' fun out g' => Outc (fun x => Qf (.panic x) g') (fun v => ∃ b, v = .d (.bool b) ∧ Qf (.val (.d (.bool b))) g') out) (Qf (.val (.d (.bool false))) g')) out)) (Br (decide (0 < (↑(elsOf (fld x 0)).length : Int))) (Br (n_1 == 0) (EvF TT 15 [] g' fun out g' => Outc (fun x => Qf (.panic x) g') (fun v => ∃ b, v = .d (.bool b) ∧ Qf (.val (.d (.bool b))) g') out) (EvF TT 18 [x, .agg [.nil, .int .i64 0, .str [], .str [], .int .i64 0, .nil, .nil, .int .i64 0], .bool true] g' fun out g' => Outc (fun x => Qf (.panic x) g') (fun v => ∃ b, v = .d (.bool b) ∧ Br b (EvF TT 15 [] g' fun out g' => Outc (fun x => Qf (.panic x) g') (fun v => ∃ b, v = .d (.bool b) ∧ Qf (.val (.d (.bool b))) g') out) (Qf (.val (.d (.bool false))) g')) out)) (L4_6 s0 x g' Qf))) out)) :
    EvF TT 4 [.str s0] g Qf :=
  sx_fun (rk := rk) (fn := Tryz.f4) (loops := lo4) (joins := jo4) (n := 100000) (args := [(9, .str s0)]) rfl rfl rfl rfl ⟨tyStr rfl h0, trivial⟩ (by kernel_rfl) h
end Go.Proofs.YtgmapdcdmomioaaGreatDoor.Pa
namespace Go.Proofs.YtgmapdcdmomioaaGreatDoor.Pa
open Go Go.Proofs.YtgmapdcdmomioaaGreatDoor.Am
variable {P : Int → Int → Prop} {en en' : Int} {r r0 r1 r' X Y : List Pk} {s u : Str} {a n m : Nat} {l acc : List Pk}
mutual
theorem ptW_same : ∀ {x y : Pt}, ptW P x y → szPt y = szPt x ∧ dpPt y = dpPt x ∧ flPt y = flPt x ∧ eqPt false x y = true ∧ eqPt false y x = true
  | .mk k s n a p, .mk k' s' n' a' p', h => by
    simp only [ptW] at h
    obtain ⟨rfl, rfl, rfl, ha, _⟩ := h
    obtain ⟨h0, h1, h2, h3, h4, h5⟩ := ptsW_same ha
    simp [szPt, dpPt, flPt, eqPt, h0, h1, h2, h3, h4, h5]
theorem ptsW_same : ∀ {x y : List Pt}, ptsW P x y → y.length = x.length ∧ szPts y = szPts x ∧ dpPts y = dpPts x ∧ flPts y = flPts x ∧ eqPts false x y = true ∧ eqPts false y x = true
  | [], [], _ => by simp [szPts, dpPts, flPts, eqPts]
  | x :: l, y :: m, h => by
    simp only [ptsW] at h
    obtain ⟨h1, h2, h3, h4, h5⟩ := ptW_same h.1
    obtain ⟨k0, k1, k2, k3, k4, k5⟩ := ptsW_same h.2
    simp [szPts, dpPts, flPts, eqPts, h1, h2, h3, h4, h5, k0, k1, k2, k3, k4, k5]
  | [], _ :: _, h => by simp [ptsW] at h
  | _ :: _, [], h => by simp [ptsW] at h
end
mutual
theorem exW_same : ∀ {x y : Ex'}, exW P x y → szEx y = szEx x ∧ dpEx y = dpEx x ∧ flEx y = flEx x ∧ eqEx false x y = true ∧ eqEx false y x = true
  | .mk k s u n a b p, .mk k' s' u' n' a' b' p', h => by
    simp only [exW] at h
    obtain ⟨rfl, rfl, rfl, rfl, ha, hb, _⟩ := h
    obtain ⟨h0, h1, h2, h3, h4, h5⟩ := exsW_same ha
    obtain ⟨k0, k1, k2, k3, k4, k5⟩ := ptsW_same hb
    simp [szEx, dpEx, flEx, eqEx, h0, h1, h2, h3, h4, h5, k0, k1, k2, k3, k4, k5]
theorem exsW_same : ∀ {x y : List Ex'}, exsW P x y → y.length = x.length ∧ szExs y = szExs x ∧ dpExs y = dpExs x ∧ flExs y = flExs x ∧ eqExs false x y = true ∧ eqExs false y x = true
  | [], [], _ => by simp [szExs, dpExs, flExs, eqExs]
  | x :: l, y :: m, h => by
    simp only [exsW] at h
    obtain ⟨h1, h2, h3, h4, h5⟩ := exW_same h.1
    obtain ⟨k0, k1, k2, k3, k4, k5⟩ := exsW_same h.2
    simp [szExs, dpExs, flExs, eqExs, h1, h2, h3, h4, h5, k0, k1, k2, k3, k4, k5]
  | [], _ :: _, h => by simp [exsW] at h
  | _ :: _, [], h => by simp [exsW] at h
end
theorem lex_tok {c : UInt8} {r : Str} {tk : Tk} {k : Nat} (hb : skipN (c :: r) = 0) (ht : tokF (c :: r) = (tk, k, 0)) (hl : acc.length < 4096) : lexA a (c :: r) acc = lexA (a + k) ((c :: r).drop k) (acc ++ [(tk, (a : Int))]) := by
  have h : (c :: r).drop (skipN (c :: r)) = c :: r := by rw [hb]; rfl
  rw [lexA_tok h (by rw [ht]; unfold lexErr; rw [if_neg (by omega)]), hb, ht]
  rfl
theorem lex_blank : lexA a (32 :: u) acc = lexA (a + 1) u acc := by
  have hs : skipN (32 :: u) = 1 + skipN u := by simp [skipN, blank]
  have hd : (32 :: u).drop (skipN (32 :: u)) = u.drop (skipN u) := by rw [hs, Nat.add_comm, List.drop_succ_cons]
  have e3 : a + (1 + skipN u) = a + 1 + skipN u := by omega
  cases hw : u.drop (skipN u) with
  | nil => rw [lexA_end (hd.trans hw), lexA_end hw]
  | cons c r =>
    by_cases he : lexErr (tokF (c :: r)).2.2 acc.length = 0
    · rw [lexA_tok (hd.trans hw) he, lexA_tok hw he, hs, e3]
    · rw [lexA_err (hd.trans hw) he, lexA_err hw he, hs, e3]
theorem lexA_nil : lexA a [] acc = .ok acc := lexA_end rfl
theorem lexAll_A (hs : s.length ≤ 8192) : lexAll s = lexA 0 s [] := by
  unfold lexAll
  rw [if_neg (by omega)]
  rfl
theorem parseAll_of {t : Str} {l : List Pk} {v : Pg} {r' : List Pk} (hl : lexAll t = .ok l) (h : gProg t.length (16 * l.length + 9) [] l = .ok v r') : parseAll t = if limF (!flEx v.e) v = 0 then .ok v else .err 0 (limF (!flEx v.e) v) := by
  unfold parseAll
  rw [hl]
  dsimp only
  rw [h]
end Go.Proofs.YtgmapdcdmomioaaGreatDoor.Pa
namespace Go.Proofs.YtgmapdcdmomioaaGreatDoor.Pa
open Go Go.Proofs.YtgmapdcdmomioaaGreatDoor.Am
variable {s u : Str} {a n m : Nat} {l acc : List Pk} {v : Pg} {g : Glob} {Qf : Out → Glob → Prop}
def t1 (s : Str) : Str := 40 :: 40 :: (s ++ [10, 41, 41])
def t2 (s : Str) : Str := 102 :: 117 :: 110 :: 32 :: 120 :: 32 :: 45 :: 62 :: 32 :: s
def t3 (s : Str) : Str := 108 :: 101 :: 116 :: 32 :: 120 :: 32 :: 61 :: 32 :: (s ++ 10 :: 105 :: 110 :: 32 :: s)
end Go.Proofs.YtgmapdcdmomioaaGreatDoor.Pa
namespace Go.Proofs.YtgmapdcdmomioaaGreatDoor.Pa
open Go Go.Proofs.YtgmapdcdmomioaaGreatDoor.Am
variable {s : Str} {v : Pg} {g : Glob} {Qf : Out → Glob → Prop}
end Go.Proofs.YtgmapdcdmomioaaGreatDoor.Pa
