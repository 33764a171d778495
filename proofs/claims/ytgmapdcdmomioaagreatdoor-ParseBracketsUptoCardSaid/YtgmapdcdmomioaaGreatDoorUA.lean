/- Proved: both packages read a text alike (the law ParseReads, in plain words). The place of a first fault lies in the text; what was read is well formed (the law ParseTakes). The same tokens at other places, and before more of them, are read alike. How a text is cut that ends, or goes on after the end of a line. What functions of the program do, printed by wip/tools/sx/sx.py. What texts come to that hold a text: in brackets, in a function, in a let (the law ParseBrackets). The law ParseBrackets. Proved: a text in brackets, in a function, in a let is read as the text (the law ParseBrackets, in plain words). -/
import Derived.Test.YtgmapdcdmomioaaGreatDoorRU
set_option linter.all false
set_option autoImplicit false
set_option maxRecDepth 100000
namespace Go.Proofs.YtgmapdcdmomioaaGreatDoor.Pa
open Go Go.Proofs.YtgmapdcdmomioaaGreatDoor.Am
variable {s : Str} {g : Glob} {Qf : Out → Glob → Prop}
theorem lexF_err : ∀ (n a : Nat) (u : Str) (acc : List Pk) (b : Nat) (e : Int), u.length < n → lexF n a u acc = .err b e → e ≠ 0 ∧ b ≤ a + u.length
  | 0, _, _, _, _, _, h, _ => by omega
  | n + 1, a, u, acc, b, e, hn, h => by
    rw [lexF] at h
    have hsk := skipN_le u
    split at h
    · cases h
    · rename_i c r hd
      have hl : (c :: r).length = u.length - skipN u := by rw [← hd]; exact List.length_drop ..
      split at h
      · rename_i he
        have h0 : (tokF (c :: r)).2.2 = 0 := by
          unfold lexErr at he
          split at he
          · cases he
          · exact he
        obtain ⟨_, m1, m2⟩ := tokF_good (p := 0) (Int.le_refl _) h0
        have hld : ((c :: r).drop (tokF (c :: r)).2.1).length = (c :: r).length - (tokF (c :: r)).2.1 := List.length_drop ..
        obtain ⟨k1, k2⟩ := lexF_err n _ _ _ b e (by omega) h
        exact ⟨k1, by omega⟩
      · rename_i he
        injection h with h1 h2
        subst h1 h2
        exact ⟨he, by omega⟩
theorem lexAll_err {b : Nat} {e : Int} (h : lexAll s = .err b e) : e ≠ 0 ∧ b ≤ s.length := by
  unfold lexAll at h
  split at h
  · injection h with h1 h2
    subst h1 h2
    exact ⟨by decide, Nat.zero_le _⟩
  · obtain ⟨k1, k2⟩ := lexF_err _ _ _ _ _ _ (by omega) h
    exact ⟨k1, by omega⟩
theorem lexAll_good {l : List Pk} (h : lexAll s = .ok l) : (∀ t ∈ l, GoodTk t) ∧ l.length ≤ 4096 := by
  unfold lexAll at h
  split at h
  · cases h
  · exact lexF_good _ _ _ _ l (fun t ht => by cases ht) (by simp) h
inductive ParseR where
  | ok (v : Pg)
  | err (p e : Int)
def parseAll (s : Str) : ParseR :=
  match lexAll s with
  | .err a e => .err a e
  | .ok l => match gProg s.length (16 * l.length + 9) [] l with
    | .ok v _ => if limF (!flEx v.e) v = 0 then .ok v else .err 0 (limF (!flEx v.e) v)
    | .bad p => .err p 120
    | .oof => .err 0 0
def PEnd (Qf : Out → Glob → Prop) : ParseR → Prop
  | .ok v => ∀ d g', absPg d = v → HasTy TT 29 d → Qf (.val (ansT d 0 0)) g'
  | .err p e => ∀ g', Qf (.val (ansT zPg p e)) g'
theorem szTok : TT.size 43 = some 4 := by kernel_rfl
theorem byTok : TT.bytes 43 = some 40 := by kernel_rfl
theorem toks_ty {l : List Pk} (hg : ∀ t ∈ l, GoodTk t) (hl : l.length ≤ 4096) : HasTy TT 37 (slOf 4 (l.map pkD)) :=
  sl_ty undToks szTok (slfit byTok (by decide) (by rw [List.length_map]; omega)) fun x hx => by
    obtain ⟨t, ht, rfl⟩ := List.mem_map.1 hx
    exact ty_tok (hg t ht).str
theorem pgback {x : Dat} (hx : HasTy TT 29 x) (h : Qf (.val (ansT x 0 0)) g) : Qf (Out.val (Val.tuple [Val.d (Dat.agg [fld x 0, Dat.int IntKind.i64 (intOf (fld x 1)), Dat.str (strOf (fld x 2)), Dat.str (strOf (fld x 3)), Dat.int IntKind.i64 (intOf (fld x 4)), fld x 5, fld x 6, Dat.int IntKind.i64 (intOf (fld x 7))]), Val.d (Dat.int IntKind.i64 0), Val.d (Dat.int IntKind.i64 0)])) g := by
  obtain ⟨d1, k1, s1, r1, n1, a1, b1, p1, rfl, hd1, he1⟩ := prog_ty hx
  exact h
theorem pParse_ok (hs : s.length ≤ 2 ^ 40) (hQ : PEnd Qf (parseAll s)) : EvF TT 16 [.str s] g Qf := by
  unfold parseAll at hQ
  refine w16 hs (plex_ok hs ?_)
  cases hl : lexAll s with
  | err a e =>
    rw [hl] at hQ
    intro us hus
    exact ⟨.nil, .nil _ (by kernel_rfl), _, _, hus, Br_of (by simpa [bne] using (lexAll_err hl).1) (hQ g)⟩
  | ok l =>
    rw [hl] at hQ
    dsimp only at hQ
    obtain ⟨hg, hlen⟩ := lexAll_good hl
    intro us hus
    refine ⟨_, toks_ty hg hlen, _, _, hus, Br_no rfl ?_⟩
    refine parsed_ok (ts := l) (n := 16 * l.length + 9) (by rw [slOf_els]) (toks_ty hg hlen) hlen hg (Int.natCast_nonneg _) ?_
    cases hp : gProg s.length (16 * l.length + 9) [] l with
    | oof => exact absurd hp (gProg_ne _ (Nat.le_refl _))
    | bad p =>
      rw [hp] at hQ
      exact fun g' => ⟨zPg, zPg_ty, _, _, ⟨rfl, rfl, rfl, trivial⟩, Br_no rfl (Br_of rfl (hQ g'))⟩
    | ok v r' =>
      rw [hp] at hQ
      have hok := gProg_ok _ ⟨List.suffix_refl _, hg⟩ (by omega) (fun d hd => by cases hd) hp
      intro d g' hd ht
      refine ⟨d, ht, _, _, ⟨rfl, rfl, rfl, trivial⟩, Br_of rfl (limited_ok ht (by rw [hd]; exact hok.pre) ⟨_, rfl, ?_⟩)⟩
      rw [hd, nw_flEx _ hok.ok]
      refine Br_iff.2 ⟨fun q => ?_, fun q => pgback ht ?_⟩
      · have hQ : PEnd Qf (if limF (!flEx v.e) v = 0 then .ok v else .err 0 (limF (!flEx v.e) v)) := hQ
        rw [if_neg (by simpa [bne] using q)] at hQ
        exact hQ g'
      · have hQ : PEnd Qf (if limF (!flEx v.e) v = 0 then .ok v else .err 0 (limF (!flEx v.e) v)) := hQ
        rw [if_pos (by simpa [bne] using q)] at hQ
        exact hQ d g' hd ht
end Go.Proofs.YtgmapdcdmomioaaGreatDoor.Pa
namespace Go.Proofs.YtgmapdcdmomioaaGreatDoor.Pa
open Go Go.Proofs.YtgmapdcdmomioaaGreatDoor.Am
variable {en : Int} {X r r1 r' : List Pk} {α β : Type}
def Sf (X : List Pk) (en : Int) : Res α → Prop
  | .ok _ r => r <:+ X
  | .bad p => ∃ r, r <:+ X ∧ p = plK en r
  | .oof => True
structure SfX (X : List Pk) (en : Int) (n : Nat) : Prop where
  ex : ∀ {r}, r <:+ X → Sf X en (gEx en n r)
  lt : ∀ {e r}, r <:+ X → Sf X en (gLet en n e r)
  br : ∀ {e r}, r <:+ X → Sf X en (gBr en n e r)
  lev : ∀ {l r}, r <:+ X → Sf X en (gLev en n l r)
  ops : ∀ {l e r}, r <:+ X → Sf X en (gOps en n l e r)
  app : ∀ {r}, r <:+ X → Sf X en (gApp en n r)
  con : ∀ {e r}, r <:+ X → Sf X en (gConArgs en n e r)
  args : ∀ {e r}, r <:+ X → Sf X en (gAppArgs en n e r)
  atom : ∀ {r}, r <:+ X → Sf X en (gAtom en n r)
theorem lexF_pl : ∀ (n a : Nat) (u : Str) (acc l : List Pk) (m : Int), ((a + u.length : Nat) : Int) ≤ m → (∀ t ∈ acc, t.2 ≤ m) → lexF n a u acc = .ok l → ∀ t ∈ l, t.2 ≤ m
  | 0, _, _, _, _, _, _, _, h => by cases h
  | n + 1, a, u, acc, l, m, hm, hg, h => by
    rw [lexF] at h
    have hsk := skipN_le u
    split at h
    · cases h; exact hg
    · rename_i c r hd
      have hl : (c :: r).length = u.length - skipN u := by rw [← hd]; exact List.length_drop ..
      split at h
      · rename_i he
        have h0 : (tokF (c :: r)).2.2 = 0 := by
          unfold lexErr at he
          split at he
          · cases he
          · exact he
        obtain ⟨_, m1, m2⟩ := tokF_good (p := 0) (Int.le_refl _) h0
        have hld : ((c :: r).drop (tokF (c :: r)).2.1).length = (c :: r).length - (tokF (c :: r)).2.1 := List.length_drop ..
        refine lexF_pl n _ _ _ l m (by omega) (fun t ht => ?_) h
        rcases List.mem_append.1 ht with ht | ht
        · exact hg t ht
        · rw [List.mem_singleton.1 ht]
          show ((a + skipN u : Nat) : Int) ≤ m
          omega
      · cases h
variable {s : Str} {g : Glob} {Qf : Out → Glob → Prop}
theorem lexAll_pl {l : List Pk} (h : lexAll s = .ok l) : ∀ t ∈ l, t.2 ≤ (s.length : Int) := by
  unfold lexAll at h
  split at h
  · cases h
  · exact lexF_pl _ _ _ _ l _ (by omega) (fun t ht => by cases ht) h
theorem parseAll_ne {p e : Int} (h : parseAll s = .err p e) : e ≠ 0 := by
  unfold parseAll at h
  split at h
  · rename_i a e' hl
    injection h with h1 h2
    subst h2
    exact (lexAll_err hl).1
  · rename_i l hl
    split at h
    · split at h
      · cases h
      · rename_i h0
        injection h with h1 h2
        subst h2
        exact h0
    · injection h with h1 h2
      subst h2
      decide
    · rename_i hq
      exact absurd hq (gProg_ne _ (Nat.le_refl _))
end Go.Proofs.YtgmapdcdmomioaaGreatDoor.Pa
namespace Go.Proofs.YtgmapdcdmomioaaGreatDoor.Pa
open Go Go.Proofs.YtgmapdcdmomioaaGreatDoor.Am
def RelK (P : Int → Int → Prop) : List Pk → List Pk → Prop
  | [], [] => True
  | t :: r, u :: s => u.1 = t.1 ∧ P t.2 u.2 ∧ RelK P r s
  | _, _ => False
mutual
def ptW (P : Int → Int → Prop) : Pt → Pt → Prop
  | .mk k s n a p, .mk k' s' n' a' p' => k = k' ∧ s = s' ∧ n = n' ∧ ptsW P a a' ∧ P p p'
def ptsW (P : Int → Int → Prop) : List Pt → List Pt → Prop
  | [], [] => True
  | x :: l, y :: m => ptW P x y ∧ ptsW P l m
  | _, _ => False
end
mutual
def exW (P : Int → Int → Prop) : Ex' → Ex' → Prop
  | .mk k s u n a b p, .mk k' s' u' n' a' b' p' => k = k' ∧ s = s' ∧ u = u' ∧ n = n' ∧ exsW P a a' ∧ ptsW P b b' ∧ P p p'
def exsW (P : Int → Int → Prop) : List Ex' → List Ex' → Prop
  | [], [] => True
  | x :: l, y :: m => exW P x y ∧ exsW P l m
  | _, _ => False
end
variable {P : Int → Int → Prop} {en en' : Int} {r r0 r1 r' X : List Pk} {α β : Type}
theorem e0W : exsW P [] [] := by simp only [exsW]
theorem p0W : ptsW P [] [] := by simp only [ptsW]
theorem ecW {x y : Ex'} {l m : List Ex'} (h : exW P x y) (h' : exsW P l m) : exsW P (x :: l) (y :: m) := by simp only [exsW]; exact ⟨h, h'⟩
theorem pcW {x y : Pt} {l m : List Pt} (h : ptW P x y) (h' : ptsW P l m) : ptsW P (x :: l) (y :: m) := by simp only [ptsW]; exact ⟨h, h'⟩
theorem mkW {k : Int} {s u : Str} {n : Int} {a a' : List Ex'} {b b' : List Pt} {p p' : Int} (ha : exsW P a a') (hb : ptsW P b b') (hp : P p p') : exW P (.mk k s u n a b p) (.mk k s u n a' b' p') := by
  simp only [exW]
  exact ⟨trivial, trivial, trivial, trivial, ha, hb, hp⟩
theorem ptsW_app : ∀ {a a' : List Pt} {x x' : Pt}, ptsW P a a' → ptW P x x' → ptsW P (a ++ [x]) (a' ++ [x'])
  | [], [], _, _, _, h => by simp only [List.nil_append, ptsW]; exact ⟨h, trivial⟩
  | x :: a, y :: b, _, _, h, h' => by
    simp only [List.cons_append, ptsW] at h ⊢
    exact ⟨h.1, ptsW_app h.2 h'⟩
  | [], _ :: _, _, _, h, _ => by simp [ptsW] at h
  | _ :: _, [], _, _, h, _ => by simp [ptsW] at h
theorem exsW_app : ∀ {a a' : List Ex'} {x x' : Ex'}, exsW P a a' → exW P x x' → exsW P (a ++ [x]) (a' ++ [x'])
  | [], [], _, _, _, h => by simp only [List.nil_append, exsW]; exact ⟨h, trivial⟩
  | x :: a, y :: b, _, _, h, h' => by
    simp only [List.cons_append, exsW] at h ⊢
    exact ⟨h.1, exsW_app h.2 h'⟩
  | [], _ :: _, _, _, h, _ => by simp [exsW] at h
  | _ :: _, [], _, _, h, _ => by simp [exsW] at h
theorem ptAddR {t t' u u' : Pt} (h : ptW P t t') (h' : ptW P u u') : ptW P (ptAdd t u) (ptAdd t' u') := by
  cases t; cases t'
  simp only [ptAdd, ptW] at h ⊢
  exact ⟨h.1, h.2.1, h.2.2.1, ptsW_app h.2.2.2.1 h', h.2.2.2.2⟩
theorem exAddR {t t' u u' : Ex'} (h : exW P t t') (h' : exW P u u') : exW P (exAdd t u) (exAdd t' u') := by
  cases t; cases t'
  simp only [exAdd, exW] at h ⊢
  exact ⟨h.1, h.2.1, h.2.2.1, h.2.2.2.1, exsW_app h.2.2.2.2.1 h', h.2.2.2.2.2⟩
theorem exPatR {t t' : Ex'} {u u' : Pt} (h : exW P t t') (h' : ptW P u u') : exW P (exPat t u) (exPat t' u') := by
  cases t; cases t'
  simp only [exPat, exW] at h ⊢
  exact ⟨h.1, h.2.1, h.2.2.1, h.2.2.2.1, h.2.2.2.2.1, ptsW_app h.2.2.2.2.2.1 h', h.2.2.2.2.2.2⟩
theorem exAtR {t t' : Ex'} (h : exW P t t') : P (exAt t) (exAt t') := by
  cases t; cases t'
  simp only [exW] at h
  exact h.2.2.2.2.2.2
def RR (P : Int → Int → Prop) (X : List Pk) (V : α → α → Prop) : Res α → Res α → Prop
  | .ok v r', x => ∃ v' r0', x = .ok v' (r0' ++ X) ∧ V v v' ∧ RelK P r' r0'
  | _, _ => True
variable {V : α → α → Prop} {W : β → β → Prop}
theorem RR.ok {v v' : α} (h : V v v') (hr : RelK P r r0) : RR P X V (.ok v r) (.ok v' (r0 ++ X)) := ⟨v', r0, rfl, h, hr⟩
theorem RR.bind {a b : Res α} {f f' : α → List Pk → Res β} (h : RR P X V a b) (k : ∀ v v' r r0, V v v' → RelK P r r0 → RR P X W (f v r) (f' v' (r0 ++ X))) : RR P X W (a.bind f) (b.bind f') := by
  cases a with
  | ok v r =>
    obtain ⟨v', r0', rfl, hv, hr⟩ := h
    exact k _ _ _ _ hv hr
  | bad p => trivial
  | oof => trivial
structure Hd (P : Int → Int → Prop) (X : List Pk) (en en' : Int) (r r0 : List Pk) : Prop where
  kd : kdK (r0 ++ X) = kdK r
  tx : txK (r0 ++ X) = txK r
  nm : nmK (r0 ++ X) = nmK r
  pl : P (plK en r) (plK en' (r0 ++ X))
  tl : (r0 ++ X).tail = r0.tail ++ X
  rel : RelK P r.tail r0.tail
theorem hd_ne (h : RelK P r r0) (hr : r ≠ []) : Hd P X en en' r r0 := by
  match r, r0, h, hr with
  | t :: r, u :: r0, h, _ =>
    obtain ⟨h1, h2, h3⟩ := h
    exact ⟨by simp [kdK, h1], by simp [txK, h1], by simp [nmK, h1], h2, rfl, h3⟩
theorem ne_kd {k : Int} (hk : k ≠ 0) (q : (kdK r == k) = true) : r ≠ [] := by
  rintro rfl
  exact ne_nil hk q rfl
theorem ne_is {k : Int} {s : Str} (hk : k ≠ 0) (q : isK' k s r = true) : r ≠ [] := by
  unfold isK' at q
  rw [Bool.and_eq_true] at q
  exact ne_kd hk q.1
theorem rr_need {k : Int} {s : Str} (hk : k ≠ 0) (h : RelK P r r0) : RR P X (fun _ _ => True) (need en k s r) (need en' k s (r0 ++ X)) := by
  unfold need
  by_cases q : isK' k s r = true
  · have d : Hd P X en en' r r0 := hd_ne h (ne_is hk q)
    have : isK' k s (r0 ++ X) = true := by simpa [isK', d.kd, d.tx] using q
    rw [if_pos q, if_pos this, d.tl]
    exact .ok trivial d.rel
  · rw [if_neg q]
    trivial
theorem rr_word {k : Int} (hk : k ≠ 0) (h : RelK P r r0) : RR P X (fun a b => b = a) (word1 en k r) (word1 en' k (r0 ++ X)) := by
  unfold word1
  by_cases q : (kdK r == k) = true
  · have d : Hd P X en en' r r0 := hd_ne h (ne_kd hk q)
    rw [if_pos q, d.kd, if_pos q, d.tl, d.tx]
    exact .ok rfl d.rel
  · rw [if_neg q]
    trivial
def Stop : List Pk → Prop
  | [] => True
  | t :: _ => (t.1.1 = 6 ∧ t.1.2.1 = sClose) ∨ (t.1.1 = 5 ∧ t.1.2.1 = kIn)
theorem kd_eq (hX : Stop X) (h : RelK P r r0) {k : Int} (hk : (k == 1 || k == 2 || k == 3 || k == 4) = true) : (kdK (r0 ++ X) == k) = (kdK r == k) := by
  match r, r0, h with
  | t :: r, u :: r0, h =>
    obtain ⟨h1, h2, h3⟩ := h
    simp [kdK, h1]
  | [], [], _ =>
    have hk : k = 1 ∨ k = 2 ∨ k = 3 ∨ k = 4 := by simpa [or_assoc] using hk
    match X, hX with
    | [], _ => rfl
    | t :: X, hX =>
      have : t.1.1 = 6 ∨ t.1.1 = 5 := hX.imp (·.1) (·.1)
      show (t.1.1 == k) = ((0 : Int) == k)
      rw [Bool.eq_iff_iff, beq_iff_eq, beq_iff_eq]
      omega
theorem is_eq (hX : Stop X) (h : RelK P r r0) {k : Int} {s : Str} (hk : ((k == 6 && s != sClose) || (k == 5 && s != kIn)) = true) : isK' k s (r0 ++ X) = isK' k s r := by
  match r, r0, h with
  | t :: r, u :: r0, h =>
    obtain ⟨h1, h2, h3⟩ := h
    simp [isK', kdK, txK, h1]
  | [], [], _ =>
    have hk : (k = 6 ∧ s ≠ sClose) ∨ (k = 5 ∧ s ≠ kIn) := by simpa using hk
    have e0 : isK' k s [] = false := by
      rcases hk with ⟨rfl, _⟩ | ⟨rfl, _⟩ <;> rfl
    rw [e0]
    match X, hX with
    | [], _ => exact e0
    | t :: X, hX =>
      show (t.1.1 == k && t.1.2.1 == s) = false
      rcases hX with ⟨e1, e2⟩ | ⟨e1, e2⟩ <;> rw [e1, e2] <;> rcases hk with ⟨rfl, hs⟩ | ⟨rfl, hs⟩
      · simpa using fun e => hs e.symm
      · rfl
      · rfl
      · simpa using fun e => hs e.symm
theorem sg_eq (hX : Stop X) (h : RelK P r r0) {l : Nat} : sgNext l (r0 ++ X) = sgNext l r := by
  match r, r0, h with
  | t :: r, u :: r0, h =>
    obtain ⟨h1, h2, h3⟩ := h
    simp [sgNext, kdK, txK, h1]
  | [], [], _ =>
    have e0 : sgNext l [] = false := rfl
    rw [e0]
    match X, hX with
    | [], _ => rfl
    | t :: X, hX =>
      show (t.1.1 == 6 && (sgns l).any fun s => s == t.1.2.1) = false
      rcases hX with ⟨e1, e2⟩ | ⟨e1, e2⟩
      · rw [e1, e2]
        match l with
        | 0 => decide
        | 1 => decide
        | _ + 2 => rfl
      · rw [e1]
        rfl
theorem at_eq (hX : Stop X) (h : RelK P r r0) : atNext (r0 ++ X) = atNext r := by
  unfold atNext
  rw [kd_eq hX h (by decide), kd_eq hX h (by decide), kd_eq hX h (by decide), is_eq hX h (by decide)]
theorem ptW_mk {k : Int} {s : Str} {n : Int} {p p' : Int} (h : P p p') : ptW P (.mk k s n [] p) (.mk k s n [] p') := by simp [ptW, ptsW, h]
theorem rr_pt (hX : Stop X) : ∀ n : Nat, (∀ m r r0, n ≤ m → RelK P r r0 → RR P X (ptW P) (gPat en n r) (gPat en' m (r0 ++ X))) ∧
    (∀ m (t t' : Pt) r r0, n ≤ m → ptW P t t' → RelK P r r0 → RR P X (ptW P) (gPatArgs en n t r) (gPatArgs en' m t' (r0 ++ X))) ∧ (∀ m r r0, n ≤ m → RelK P r r0 → RR P X (ptW P) (gPatom en n r) (gPatom en' m (r0 ++ X)))
  | 0 => ⟨fun _ _ _ _ _ => trivial, fun _ _ _ _ _ _ _ _ => trivial, fun _ _ _ _ _ => trivial⟩
  | n + 1 => by
    obtain ⟨i1, i3, i4⟩ := rr_pt hX n
    refine ⟨fun m r r0 hm h => ?_, fun m t t' r r0 hm ht h => ?_, fun m r r0 hm h => ?_⟩ <;> obtain ⟨m, rfl⟩ : ∃ k, m = k + 1 := ⟨m - 1, by omega⟩ <;> have hm : n ≤ m := by omega
    · rw [gPat, gPat, kd_eq hX h (by decide)]
      split
      · rename_i q
        have d : Hd P X en en' r r0 := hd_ne h (ne_kd (by decide) q)
        rw [d.tl, d.tx, d.nm]
        exact i3 _ _ _ _ _ hm (ptW_mk d.pl) d.rel
      · exact i4 _ _ _ hm h
    · rw [gPatArgs, gPatArgs, at_eq hX h, is_eq hX h (by decide)]
      split
      · exact (i4 _ _ _ hm h).bind fun _ _ _ _ e h => i3 _ _ _ _ _ hm (ptAddR ht e) h
      · exact .ok ht h
    · rw [gPatom, gPatom, kd_eq hX h (by decide), kd_eq hX h (by decide), kd_eq hX h (by decide), is_eq hX h (by decide)]
      split
      · rename_i q
        have d : Hd P X en en' r r0 := hd_ne h (ne_kd (by decide) q)
        rw [d.tl, d.tx, d.nm]
        exact .ok (ptW_mk d.pl) d.rel
      · split
        · rename_i q
          have d : Hd P X en en' r r0 := hd_ne h (ne_is (by decide) q)
          rw [d.tl, d.nm]
          exact .ok (ptW_mk d.pl) d.rel
        · split
          · rename_i q
            have d : Hd P X en en' r r0 := hd_ne h (ne_kd (by decide) q)
            rw [d.tl, d.tx, d.nm]
            exact .ok (ptW_mk d.pl) d.rel
          · split
            · rename_i q
              have d : Hd P X en en' r r0 := hd_ne h (ne_kd (by decide) q)
              rw [d.tl, d.tx, d.nm]
              exact .ok (ptW_mk d.pl) d.rel
            · exact (rr_need (by decide) h).bind fun _ _ _ _ _ h => (i1 _ _ _ hm h).bind fun _ _ _ _ e h => (rr_need (by decide) h).bind fun _ _ _ _ _ h => .ok e h
theorem con0R {s : Str} {p p' : Int} (h : P p p') : ptW P (con0 s p) (con0 s p') := ptW_mk h
theorem ex9R {s : Str} {e e' b b' : Ex'} (he : exW P e e') (hb : exW P b b') : exW P (.mk 9 s [] 0 [e, b] [] (exAt e)) (.mk 9 s [] 0 [e', b'] [] (exAt e')) := by
  exact mkW (ecW he (ecW hb e0W)) p0W (exAtR he)
structure RX (P : Int → Int → Prop) (X : List Pk) (en en' : Int) (n : Nat) : Prop where
  ex : ∀ {m r r0}, n ≤ m → RelK P r r0 → RR P X (exW P) (gEx en n r) (gEx en' m (r0 ++ X))
  lt : ∀ {m e e' r r0}, n ≤ m → exW P e e' → RelK P r r0 → RR P X (exW P) (gLet en n e r) (gLet en' m e' (r0 ++ X))
  br : ∀ {m e e' r r0}, n ≤ m → exW P e e' → RelK P r r0 → RR P X (exW P) (gBr en n e r) (gBr en' m e' (r0 ++ X))
  lev : ∀ {m l r r0}, n ≤ m → RelK P r r0 → RR P X (exW P) (gLev en n l r) (gLev en' m l (r0 ++ X))
  ops : ∀ {m l e e' r r0}, n ≤ m → exW P e e' → RelK P r r0 → RR P X (exW P) (gOps en n l e r) (gOps en' m l e' (r0 ++ X))
  app : ∀ {m r r0}, n ≤ m → RelK P r r0 → RR P X (exW P) (gApp en n r) (gApp en' m (r0 ++ X))
  con : ∀ {m e e' r r0}, n ≤ m → exW P e e' → RelK P r r0 → RR P X (exW P) (gConArgs en n e r) (gConArgs en' m e' (r0 ++ X))
  args : ∀ {m e e' r r0}, n ≤ m → exW P e e' → RelK P r r0 → RR P X (exW P) (gAppArgs en n e r) (gAppArgs en' m e' (r0 ++ X))
  atom : ∀ {m r r0}, n ≤ m → RelK P r r0 → RR P X (exW P) (gAtom en n r) (gAtom en' m (r0 ++ X))
theorem rr_ex (hX : Stop X) : ∀ n : Nat, RX P X en en' n
  | 0 => by constructor <;> intros <;> simp [gEx, gLet, gBr, gLev, gOps, gApp, gConArgs, gAppArgs, gAtom, RR]
  | n + 1 => by
    have I : RX P X en en' n := rr_ex hX n
    have Q := (rr_pt (en := en) (en' := en') (P := P) hX n).1
    constructor
    · intro m r r0 hm h
      obtain ⟨m, rfl⟩ : ∃ k, m = k + 1 := ⟨m - 1, by omega⟩
      have hm : n ≤ m := by omega
      rw [gEx, gEx]
      rw [is_eq hX h (by decide), is_eq hX h (by decide), is_eq hX h (by decide), is_eq hX h (by decide)]
      split
      · rename_i q
        have d : Hd P X en en' r r0 := hd_ne h (ne_is (by decide) q)
        rw [d.tl]
        exact (rr_word (by decide) d.rel).bind fun x x' _ _ e h => (rr_need (by decide) h).bind fun _ _ _ _ _ h => (I.ex hm h).bind fun _ _ _ _ he h => .ok (by subst e; exact mkW (ecW he e0W) p0W d.pl) h
      · split
        · rename_i q
          have d : Hd P X en en' r r0 := hd_ne h (ne_is (by decide) q)
          rw [d.tl, is_eq hX d.rel (by decide)]
          split
          · rename_i q2
            have d2 : Hd P X en en' r.tail r0.tail := hd_ne d.rel (ne_is (by decide) q2)
            rw [d2.tl]
            exact (rr_word (by decide) d2.rel).bind fun x x' _ _ e h => (rr_word (by decide) h).bind fun y y' _ _ e2 h => I.lt hm (by subst e e2; exact mkW e0W p0W d.pl) h
          · exact (rr_word (by decide) d.rel).bind fun x x' _ _ e h => I.lt hm (by subst e; exact mkW e0W p0W d.pl) h
        · split
          · rename_i q
            have d : Hd P X en en' r r0 := hd_ne h (ne_is (by decide) q)
            rw [d.tl]
            exact (I.ex hm d.rel).bind fun _ _ _ _ ha h => (rr_need (by decide) h).bind fun _ _ _ _ _ h => (I.ex hm h).bind fun _ _ _ _ hb h => (rr_need (by decide) h).bind fun _ _ _ _ _ h => (I.ex hm h).bind fun _ _ _ _ hc h =>
              .ok (mkW (ecW ha (ecW hb (ecW hc e0W))) (pcW (con0R d.pl) (pcW (con0R d.pl) p0W)) d.pl) h
          · split
            · rename_i q
              have d : Hd P X en en' r r0 := hd_ne h (ne_is (by decide) q)
              rw [d.tl]
              exact (I.ex hm d.rel).bind fun _ _ _ _ ha h => (rr_need (by decide) h).bind fun _ _ _ _ _ h => I.br hm (mkW (ecW ha e0W) p0W d.pl) h
            · refine (I.lev hm h).bind fun a a' r r0 ha h => ?_
              rw [is_eq hX h (by decide)]
              split
              · rename_i q
                have d : Hd P X en en' r r0 := hd_ne h (ne_is (by decide) q)
                rw [d.tl]
                exact (I.ex hm d.rel).bind fun _ _ _ _ hb h => .ok (mkW (ecW ha (ecW hb e0W)) (pcW (con0R (exAtR ha)) p0W) (exAtR ha)) h
              · exact .ok ha h
    · intro m e e' r r0 hm he h
      obtain ⟨m, rfl⟩ : ∃ k, m = k + 1 := ⟨m - 1, by omega⟩
      have hm : n ≤ m := by omega
      rw [gLet, gLet]
      exact (rr_need (by decide) h).bind fun _ _ _ _ _ h => (I.ex hm h).bind fun _ _ _ _ ha h => (rr_need (by decide) h).bind fun _ _ _ _ _ h => (I.ex hm h).bind fun _ _ _ _ hb h => .ok (exAddR (exAddR he ha) hb) h
    · intro m e e' r r0 hm he h
      obtain ⟨m, rfl⟩ : ∃ k, m = k + 1 := ⟨m - 1, by omega⟩
      have hm : n ≤ m := by omega
      rw [gBr, gBr]
      refine (Q _ _ _ hm h).bind fun _ _ _ _ hx h => (rr_need (by decide) h).bind fun _ _ _ _ _ h => (I.ex hm h).bind fun _ _ r r0 ha h => ?_
      have hv := exAddR (exPatR he hx) ha
      rw [is_eq hX h (by decide)]
      split
      · rename_i q
        have d : Hd P X en en' r r0 := hd_ne h (ne_is (by decide) q)
        rw [d.tl]
        exact I.br hm hv d.rel
      · exact (rr_need (by decide) h).bind fun _ _ _ _ _ h => .ok hv h
    · intro m l r r0 hm h
      obtain ⟨m, rfl⟩ : ∃ k, m = k + 1 := ⟨m - 1, by omega⟩
      have hm : n ≤ m := by omega
      rw [gLev, gLev]
      split
      · exact I.app hm h
      · exact (I.lev hm h).bind fun _ _ _ _ ha h => I.ops hm ha h
    · intro m l e e' r r0 hm he h
      obtain ⟨m, rfl⟩ : ∃ k, m = k + 1 := ⟨m - 1, by omega⟩
      have hm : n ≤ m := by omega
      rw [gOps, gOps, sg_eq hX h]
      split
      · rename_i q
        have d : Hd P X en en' r r0 := hd_ne h (ne_kd (k := 6) (by decide) (by unfold sgNext at q; rw [Bool.and_eq_true] at q; exact q.1))
        rw [d.tl, d.tx]
        refine (I.lev hm d.rel).bind fun _ _ _ _ hb h => ?_
        have hv := ex9R (s := txK r) he hb
        split
        · exact .ok hv h
        · exact I.ops hm hv h
      · exact .ok he h
    · intro m r r0 hm h
      obtain ⟨m, rfl⟩ : ∃ k, m = k + 1 := ⟨m - 1, by omega⟩
      have hm : n ≤ m := by omega
      rw [gApp, gApp, kd_eq hX h (by decide), is_eq hX h (by decide)]
      split
      · exact (I.atom hm h).bind fun _ _ _ _ ha h => I.con hm ha h
      · split
        · rename_i q
          have d : Hd P X en en' r r0 := hd_ne h (ne_is (by decide) q)
          rw [d.tl]
          exact (I.atom hm d.rel).bind fun _ _ _ _ ha h => .ok (mkW (ecW ha e0W) p0W d.pl) h
        · exact (I.atom hm h).bind fun _ _ _ _ ha h => I.args hm ha h
    · intro m e e' r r0 hm he h
      obtain ⟨m, rfl⟩ : ∃ k, m = k + 1 := ⟨m - 1, by omega⟩
      have hm : n ≤ m := by omega
      rw [gConArgs, gConArgs, at_eq hX h]
      split
      · exact (I.atom hm h).bind fun _ _ _ _ ha h => I.con hm (exAddR he ha) h
      · exact .ok he h
    · intro m e e' r r0 hm he h
      obtain ⟨m, rfl⟩ : ∃ k, m = k + 1 := ⟨m - 1, by omega⟩
      have hm : n ≤ m := by omega
      rw [gAppArgs, gAppArgs, at_eq hX h]
      split
      · exact (I.atom hm h).bind fun _ _ _ _ ha h => I.args hm (mkW (ecW he (ecW ha e0W)) p0W (exAtR he)) h
      · exact .ok he h
    · intro m r r0 hm h
      obtain ⟨m, rfl⟩ : ∃ k, m = k + 1 := ⟨m - 1, by omega⟩
      have hm : n ≤ m := by omega
      have mk : ∀ {k : Int} {s : Str} {n p p' : Int}, P p p' → exW P (.mk k s [] n [] [] p) (.mk k s [] n [] [] p') := fun hp => mkW e0W p0W hp
      rw [gAtom, gAtom, kd_eq hX h (by decide), kd_eq hX h (by decide), kd_eq hX h (by decide)]
      split
      · rename_i q
        have d : Hd P X en en' r r0 := hd_ne h (ne_kd (by decide) q)
        rw [d.tl, d.tx, d.nm]
        exact .ok (mk d.pl) d.rel
      · split
        · rename_i q
          have d : Hd P X en en' r r0 := hd_ne h (ne_kd (by decide) q)
          rw [d.tl, d.tx, d.nm]
          exact .ok (mk d.pl) d.rel
        · split
          · rename_i q
            have d : Hd P X en en' r r0 := hd_ne h (ne_kd (by decide) q)
            rw [d.tl, d.tx, d.nm]
            exact .ok (mk d.pl) d.rel
          · exact (rr_need (by decide) h).bind fun _ _ _ _ _ h => (I.ex hm h).bind fun _ _ _ _ ha h => (rr_need (by decide) h).bind fun _ _ _ _ _ h => .ok ha h
end Go.Proofs.YtgmapdcdmomioaaGreatDoor.Pa
namespace Go.Proofs.YtgmapdcdmomioaaGreatDoor.Pa
open Go Go.Proofs.YtgmapdcdmomioaaGreatDoor.Am
variable {u w : Str} {a n m : Nat} {l acc : List Pk}
mutual
theorem skip_nl : ∀ u : Str, skipN (u ++ 10 :: w) = if skipN u < u.length then skipN u else u.length + 1 + skipN w
  | [] => by simp [skipN, blank]
  | c :: r => by
    have h1 := skip_nl r
    have h2 := com_nl r
    simp only [List.cons_append, skipN, List.length_cons]
    split
    · rw [h1]
      by_cases h : skipN r < r.length
      · rw [if_pos h, if_pos (by omega)]
      · rw [if_neg h, if_neg (by omega)]; omega
    · split
      · rw [h2]
        by_cases h : comN r < r.length
        · rw [if_pos h, if_pos (by omega)]
        · rw [if_neg h, if_neg (by omega)]; omega
      · rw [if_pos (by omega)]
theorem com_nl : ∀ u : Str, comN (u ++ 10 :: w) = if comN u < u.length then comN u else u.length + 1 + skipN w
  | [] => by simp [comN]
  | c :: r => by
    have h1 := skip_nl r
    have h2 := com_nl r
    simp only [List.cons_append, comN, List.length_cons]
    split
    · rw [h1]
      by_cases h : skipN r < r.length
      · rw [if_pos h, if_pos (by omega)]
      · rw [if_neg h, if_neg (by omega)]; omega
    · rw [h2]
      by_cases h : comN r < r.length
      · rw [if_pos h, if_pos (by omega)]
      · rw [if_neg h, if_neg (by omega)]; omega
end
theorem tw_nl {p : Int → Bool} (hp : p 10 = false) : ∀ r : Str, tw p (r ++ 10 :: w) = tw p r
  | [] => by
    have : p ((10 : UInt8).toNat : Int) = false := hp
    simp only [tw, List.nil_append, List.takeWhile_cons, this, List.takeWhile_nil]
    simp
  | c :: r => by
    have ih := tw_nl hp r
    unfold tw at ih ⊢
    simp only [List.cons_append, List.takeWhile_cons, ih]
theorem run_nl {p : Int → Bool} (hp : p 10 = false) (r : Str) : runN p (r ++ 10 :: w) = runN p r := by
  rw [← tw_len, ← tw_len, tw_nl hp]
theorem pre_nl : ∀ (x r : Str), (10 : UInt8) ∉ x → x.isPrefixOf (r ++ 10 :: w) = x.isPrefixOf r
  | [], _, _ => by simp
  | y :: x, [], h => by
    have : y ≠ 10 := fun e => h (by simp [e])
    simp [List.isPrefixOf, this]
  | y :: x, c :: r, h => by
    have := pre_nl x r (fun e => h (List.mem_cons_of_mem _ e))
    simp [List.isPrefixOf, this]
theorem sign_nl : ∀ (L : List Str) (r : Str), (∀ x ∈ L, (10 : UInt8) ∉ x) → signF (r ++ 10 :: w) L = signF r L
  | [], _, _ => rfl
  | x :: L, r, h => by
    simp only [signF, pre_nl x r (h x List.mem_cons_self), sign_nl L r fun y hy => h y (List.mem_cons_of_mem _ hy)]
theorem tok_nl (c : UInt8) (r : Str) : tokF (c :: r ++ 10 :: w) = tokF (c :: r) := by
  have e1 : ptB 10 = false := by decide
  have e2 : dgB 10 = false := by decide
  have e3 : quoteB c (r ++ 10 :: w) = quoteB c r := by
    unfold quoteB
    rw [run_nl e1]
    cases r with
    | nil => simp [runN]
    | cons d r => rfl
  have e4 : signF (c :: (r ++ 10 :: w)) signL = signF (c :: r) signL := sign_nl signL (c :: r) (by decide)
  rw [List.cons_append, tokF_eq, tokF_eq, tw_nl e1, tw_nl e2, run_nl e1, run_nl e2, e3, e4]
theorem lexF_fuel : ∀ (n m a : Nat) (u : Str) (acc : List Pk), u.length < n → u.length < m → lexF n a u acc = lexF m a u acc
  | 0, _, _, _, _, h, _ => by omega
  | n + 1, 0, _, _, _, _, h => by omega
  | n + 1, m + 1, a, u, acc, hn, hm => by
    rw [lexF, lexF]
    have hsk := skipN_le u
    split
    · rfl
    · rename_i c r hd
      have hl : (c :: r).length = u.length - skipN u := by rw [← hd]; exact List.length_drop ..
      split
      · rename_i he
        have h0 : (tokF (c :: r)).2.2 = 0 := by
          unfold lexErr at he
          split at he
          · cases he
          · exact he
        obtain ⟨_, m1, m2⟩ := tokF_good (p := 0) (Int.le_refl _) h0
        have hld : ((c :: r).drop (tokF (c :: r)).2.1).length = (c :: r).length - (tokF (c :: r)).2.1 := List.length_drop ..
        exact lexF_fuel n m _ _ _ (by omega) (by omega)
      · rfl
def lexA (a : Nat) (u : Str) (acc : List Pk) : LexR := lexF (u.length + 1) a u acc
theorem lexA_of (h : u.length < n) : lexF n a u acc = lexA a u acc := lexF_fuel _ _ _ _ _ h (Nat.lt_succ_self _)
theorem lexA_end (h : u.drop (skipN u) = []) : lexA a u acc = .ok acc := by
  unfold lexA
  rw [lexF, h]
theorem lexA_tok {c : UInt8} {r : Str} (h : u.drop (skipN u) = c :: r) (he : lexErr (tokF (c :: r)).2.2 acc.length = 0) : lexA a u acc = lexA (a + skipN u + (tokF (c :: r)).2.1) ((c :: r).drop (tokF (c :: r)).2.1) (acc ++ [((tokF (c :: r)).1, ((a + skipN u : Nat) : Int))]) := by
  have hsk := skipN_le u
  have hl : (c :: r).length = u.length - skipN u := by rw [← h]; exact List.length_drop ..
  have h0 : (tokF (c :: r)).2.2 = 0 := by
    unfold lexErr at he
    split at he
    · cases he
    · exact he
  obtain ⟨_, m1, m2⟩ := tokF_good (p := 0) (Int.le_refl _) h0
  have hld : ((c :: r).drop (tokF (c :: r)).2.1).length = (c :: r).length - (tokF (c :: r)).2.1 := List.length_drop ..
  have e0 : lexA a u acc = lexF (u.length + 1) a u acc := rfl
  rw [e0, lexF, h]
  dsimp only
  rw [if_pos he]
  have hc : (c :: r).length = r.length + 1 := List.length_cons
  exact lexA_of (by omega)
theorem lexA_err {c : UInt8} {r : Str} (h : u.drop (skipN u) = c :: r) (he : lexErr (tokF (c :: r)).2.2 acc.length ≠ 0) : lexA a u acc = .err (a + skipN u) (lexErr (tokF (c :: r)).2.2 acc.length) := by
  unfold lexA
  rw [lexF, h]
  dsimp only
  rw [if_neg he]
theorem lexA_nl : ∀ (k a : Nat) (u : Str) (acc l : List Pk), u.length < k → lexA a u acc = .ok l → lexA a (u ++ 10 :: w) acc = lexA (a + u.length + 1) w l
  | 0, _, _, _, _, h, _ => by omega
  | k + 1, a, u, acc, l, hk, h => by
    have hsk := skipN_le u
    cases hd : u.drop (skipN u) with
    | nil =>
      rw [lexA_end hd] at h
      cases h
      have hs : skipN u = u.length := by
        have := congrArg List.length hd
        rw [List.length_drop, List.length_nil] at this
        omega
      have e1 : skipN (u ++ 10 :: w) = u.length + 1 + skipN w := by rw [skip_nl, if_neg (by omega)]
      have e2 : (u ++ 10 :: w).drop (skipN (u ++ 10 :: w)) = w.drop (skipN w) := by
        rw [e1, Nat.add_assoc, ← List.drop_drop, List.drop_left' rfl, Nat.add_comm 1, List.drop_succ_cons]
      cases hw : w.drop (skipN w) with
      | nil => rw [lexA_end (e2.trans hw), lexA_end hw]
      | cons c r =>
        have e3 : a + (u.length + 1 + skipN w) = a + u.length + 1 + skipN w := by omega
        by_cases he : lexErr (tokF (c :: r)).2.2 acc.length = 0
        · rw [lexA_tok (e2.trans hw) he, lexA_tok hw he, e1, e3]
        · rw [lexA_err (e2.trans hw) he, lexA_err hw he, e1, e3]
    | cons c r =>
      have hl : (c :: r).length = u.length - skipN u := by rw [← hd]; exact List.length_drop ..
      have hlt : skipN u < u.length := by rw [List.length_cons] at hl; omega
      have e1 : skipN (u ++ 10 :: w) = skipN u := by rw [skip_nl, if_pos hlt]
      have e2 : (u ++ 10 :: w).drop (skipN (u ++ 10 :: w)) = c :: (r ++ 10 :: w) := by
        rw [e1, List.drop_append_of_le_length (by omega), hd]
        rfl
      have et : tokF (c :: (r ++ 10 :: w)) = tokF (c :: r) := tok_nl c r
      by_cases he : lexErr (tokF (c :: r)).2.2 acc.length = 0
      · have h0 : (tokF (c :: r)).2.2 = 0 := by
          unfold lexErr at he
          split at he
          · cases he
          · exact he
        obtain ⟨_, m1, m2⟩ := tokF_good (p := 0) (Int.le_refl _) h0
        have hld : ((c :: r).drop (tokF (c :: r)).2.1).length = (c :: r).length - (tokF (c :: r)).2.1 := List.length_drop ..
        rw [lexA_tok hd he] at h
        have ed : (c :: (r ++ 10 :: w)).drop (tokF (c :: r)).2.1 = (c :: r).drop (tokF (c :: r)).2.1 ++ 10 :: w := by
          rw [← List.cons_append, List.drop_append_of_le_length m2]
        rw [lexA_tok e2 (by rw [et]; exact he), et, ed, e1, lexA_nl k _ _ _ _ (by omega) h]
        congr 1
        omega
      · rw [lexA_err hd he] at h
        cases h
theorem relK_len {P : Int → Int → Prop} : ∀ {l l' : List Pk}, RelK P l l' → l'.length = l.length
  | [], [], _ => rfl
  | _ :: _, _ :: _, h => by rw [List.length_cons, List.length_cons, relK_len h.2.2]
theorem lexA_at : ∀ (k : Nat) (u : Str) (a b : Nat) (acc acc' l : List Pk), u.length < k → lexA a u acc = .ok l → ∃ l1, l = acc ++ l1 ∧
    ((acc'.length + l1.length ≤ 4096 → ∃ l2, RelK (fun x y => y = x + ((b : Int) - a)) l1 l2 ∧ lexA b u acc' = .ok (acc' ++ l2)) ∧ (4096 < acc'.length + l1.length → acc'.length ≤ 4096 → ∃ p, lexA b u acc' = .err p 3))
  | 0, _, _, _, _, _, _, h, _ => by omega
  | k + 1, u, a, b, acc, acc', l, hk, h => by
    have hsk := skipN_le u
    cases hd : u.drop (skipN u) with
    | nil =>
      rw [lexA_end hd] at h
      cases h
      refine ⟨[], by simp, fun _ => ⟨[], trivial, by rw [lexA_end hd]; simp⟩, fun h1 h2 => ?_⟩
      simp at h1
      omega
    | cons c r =>
      have hl : (c :: r).length = u.length - skipN u := by rw [← hd]; exact List.length_drop ..
      by_cases he : lexErr (tokF (c :: r)).2.2 acc.length = 0
      · have h0 : (tokF (c :: r)).2.2 = 0 := by
          unfold lexErr at he
          split at he
          · cases he
          · exact he
        obtain ⟨_, m1, m2⟩ := tokF_good (p := 0) (Int.le_refl _) h0
        have hld : ((c :: r).drop (tokF (c :: r)).2.1).length = (c :: r).length - (tokF (c :: r)).2.1 := List.length_drop ..
        rw [lexA_tok hd he] at h
        obtain ⟨l1, rfl, i1, i2⟩ := lexA_at k _ _ (b + skipN u + (tokF (c :: r)).2.1) _ (acc' ++ [((tokF (c :: r)).1, ((b + skipN u : Nat) : Int))]) _ (by omega) h
        refine ⟨((tokF (c :: r)).1, ((a + skipN u : Nat) : Int)) :: l1, by simp, fun hn => ?_, fun hn hc => ?_⟩
        · rw [List.length_cons] at hn
          have he' : lexErr (tokF (c :: r)).2.2 acc'.length = 0 := by
            unfold lexErr
            rw [if_neg (by omega)]
            exact h0
          obtain ⟨l2, j1, j2⟩ := i1 (by simp; omega)
          refine ⟨((tokF (c :: r)).1, ((b + skipN u : Nat) : Int)) :: l2, ⟨rfl, by dsimp only; omega, ?_⟩, by rw [lexA_tok hd he', j2]; simp⟩
          have ee : ((b + skipN u + (tokF (c :: r)).2.1 : Nat) : Int) - ((a + skipN u + (tokF (c :: r)).2.1 : Nat) : Int) = (b : Int) - a := by omega
          rw [ee] at j1
          exact j1
        · rw [List.length_cons] at hn
          by_cases hf : acc'.length = 4096
          · refine ⟨b + skipN u, ?_⟩
            have e3 : lexErr (tokF (c :: r)).2.2 acc'.length = 3 := by
              unfold lexErr
              rw [if_pos ⟨h0, hf⟩]
            rw [lexA_err hd (by rw [e3]; decide), e3]
          · have he' : lexErr (tokF (c :: r)).2.2 acc'.length = 0 := by
              unfold lexErr
              rw [if_neg (by omega)]
              exact h0
            obtain ⟨p, hp⟩ := i2 (by simp; omega) (by simp; omega)
            exact ⟨p, by rw [lexA_tok hd he', hp]⟩
      · rw [lexA_err hd he] at h
        cases h
end Go.Proofs.YtgmapdcdmomioaaGreatDoor.Pa
namespace Go.Proofs.YtgmapdcdmomioaaGreatDoor.Pa
open Go Go.Proofs.YtgmapdcdmomioaaGreatDoor.Am
def L4_6 (s0 : List UInt8) (y3 : Dat) (g : Glob) (Qf : Out → Glob → Prop) : Prop := CutP TT Tryz.f4 [1, 1, 1, 1] Qf (mkC TT 4 Tryz.f4 1 [(0, .v 9 (.str s0)), (3, .loc 3 0 0)] [(3, .whole 29 y3)] g)
def L4_9 (n8 : Int) (n11 : Int) (n14 : Int) (y12 : Dat) (y9 : Dat) (y6 : Dat) (y3 : Dat) (g : Glob) (Qf : Out → Glob → Prop) : Prop := CutP TT Tryz.f4 [1, 1, 1, 1, 1, 1, 1] Qf (mkC TT 4 Tryz.f4 1 [(3, .loc 3 0 0), (6, .loc 6 0 0), (8, .v 30 (.int .i64 n8)), (9, .loc 9 0 0), (11, .v 30 (.int .i64 n11)), (12, .loc 12 0 0), (14, .v 30 (.int .i64 n14))] [(12, .whole 29 y12), (9, .whole 29 y9), (6, .whole 29 y6), (3, .whole 29 y3)] g)
def L4_11 (n11 : Int) (n14 : Int) (y12 : Dat) (y9 : Dat) (y3 : Dat) (g : Glob) (Qf : Out → Glob → Prop) : Prop := CutP TT Tryz.f4 [1, 1, 1, 1, 1, 1, 1, 1] Qf (mkC TT 4 Tryz.f4 1 [(3, .loc 3 0 0), (9, .loc 9 0 0), (11, .v 30 (.int .i64 n11)), (12, .loc 12 0 0), (14, .v 30 (.int .i64 n14))] [(12, .whole 29 y12), (9, .whole 29 y9), (3, .whole 29 y3)] g)
def L4_13 (n11 : Int) (n14 : Int) (g : Glob) (Qf : Out → Glob → Prop) : Prop := CutP TT Tryz.f4 [1, 1, 1, 1, 1, 1, 1, 1, 1] Qf (mkC TT 4 Tryz.f4 1 [(11, .v 30 (.int .i64 n11)), (14, .v 30 (.int .i64 n14))] [] g)
def lo4 : List CutI := []
def jo4 : List CutI := [⟨6, [(0, .keep), (3, .keep)], [(3, .whole 29)]⟩, ⟨9, [(3, .keep), (6, .keep), (8, .keep), (9, .keep), (11, .keep), (12, .keep), (14, .keep)], [(12, .whole 29), (9, .whole 29), (6, .whole 29), (3, .whole 29)]⟩, ⟨11, [(3, .keep), (9, .keep), (11, .keep), (12, .keep), (14, .keep)], [(12, .whole 29), (9, .whole 29), (3, .whole 29)]⟩, ⟨13, [(11, .keep), (14, .keep)], []⟩]
theorem w4 {s0 : List UInt8} {g : Glob} {Qf : Out → Glob → Prop} (h0 : s0.length ≤ 2 ^ 40)
    (h : Br (decide (4000 < (↑s0.length : Int))) (EvF TT 15 [] g fun out g' => Outc (fun x => Qf (.panic x) g') (fun v => ∃ b, v = .d (.bool b) ∧ Qf (.val (.d (.bool b))) g') out) (EvF TT 16 [.str s0] g fun out g' => Outc (fun x => Qf (.panic x) g') (fun v => ∃ x, HasTy TT 29 x ∧ ∃ n n_1, RetT v [x, .int .i64 n, .int .i64 n_1] ∧ Br (n_1 != 0) (Br (n_1 == 0) (EvF TT 15 [] g' fun out g' => Outc (fun x => Qf (.panic x) g') (fun v => ∃ b, v = .d (.bool b) ∧ Qf (.val (.d (.bool b))) g') out) (EvF TT 18 [x, .agg [.nil, .int .i64 0, .str [], .str [], .int .i64 0, .nil, .nil, .int .i64 0], .bool true] g' fun out g' => Outc (fun x => Qf (.panic x) g') (fun v => ∃ b, v = .d (.bool b) ∧ Br b (EvF TT 15 [] g' fun out g' => Outc (fun x => Qf (.panic x) g') (fun v => ∃ b, v = .d (.bool b) ∧ Qf (.val (.d (.bool b))) g') out) (Qf (.val (.d (.bool false))) g')) out)) (Br (decide (0 < (↑(elsOf (fld x 0)).length : Int))) (Br (n_1 == 0) (EvF TT 15 [] g' fun out g' => Outc (fun x => Qf (.panic x) g') (fun v => ∃ b, v = .d (.bool b) ∧ Qf (.val (.d (.bool b))) g') out) (EvF TT 18 [x, .agg [.nil, .int .i64 0, .str [], .str [], .int .i64 0, .nil, .nil, .int .i64 0], .bool true] g' fun out g' => Outc (fun x => Qf (.panic x) g') (fun v => ∃ b, v = .d (.bool b) ∧ Br b (EvF TT 15 [] g' fun out g' => Outc (fun x => Qf (.panic x) g') (fun v => ∃ b, v = .d (.bool b) ∧ Qf (.val (.d (.bool b))) g') out) (Qf (.val (.d (.bool false))) g')) out)) (L4_6 s0 x g' Qf))) out)) :
    EvF TT 4 [.str s0] g Qf :=
  sx_fun (rk := rk) (fn := Tryz.f4) (loops := lo4) (joins := jo4) (n := 100000) (args := [(9, .str s0)]) rfl rfl rfl rfl ⟨tyStr rfl h0, trivial⟩ (by kernel_rfl) h
theorem w4_6 {s0 : List UInt8} {y3 : Dat} {g : Glob} {Qf : Out → Glob → Prop} 
    (h : (2 + s0.length).le 1099511627776 ∧ ((40 :: 40 :: s0).length + 3).le 1099511627776 ∧ EvF TT 16 [.str (40 :: 40 :: s0 ++ [10, 41, 41])] g fun out g' => Outc (fun x => Qf (.panic x) g') (fun v => ∃ x, HasTy TT 29 x ∧ ∃ n n_1, RetT v [x, .int .i64 n, .int .i64 n_1] ∧ (9 + s0.length).le 1099511627776 ∧ EvF TT 16 [.str (102 :: 117 :: 110 :: 32 :: 120 :: 32 :: 45 :: 62 :: 32 :: s0)] g' fun out g' => Outc (fun x => Qf (.panic x) g') (fun v => ∃ x_1, HasTy TT 29 x_1 ∧ ∃ n n_2, RetT v [x_1, .int .i64 n, .int .i64 n_2] ∧ (8 + s0.length).le 1099511627776 ∧ ((108 :: 101 :: 116 :: 32 :: 120 :: 32 :: 61 :: 32 :: s0).length + 4).le 1099511627776 ∧ ((108 :: 101 :: 116 :: 32 :: 120 :: 32 :: 61 :: 32 :: s0 ++ [10, 105, 110, 32]).length + s0.length).le 1099511627776 ∧ EvF TT 16 [.str (108 :: 101 :: 116 :: 32 :: 120 :: 32 :: 61 :: 32 :: (s0 ++ [10, 105, 110, 32]) ++ s0)] g' fun out g' => Outc (fun x => Qf (.panic x) g') (fun v => ∃ x_2, HasTy TT 29 x_2 ∧ ∃ n n_3, RetT v [x_2, .int .i64 n, .int .i64 n_3] ∧ L4_9 n_1 n_2 n_3 x_2 x_1 x y3 g' Qf) out) out) out) :
    L4_6 s0 y3 g Qf := sx_cut (rk := rk) (loops := lo4) (joins := jo4) (n := 100000) (by kernel_rfl) h
theorem w4_9 {n8 : Int} {n11 : Int} {n14 : Int} {y12 : Dat} {y9 : Dat} {y6 : Dat} {y3 : Dat} {g : Glob} {Qf : Out → Glob → Prop} 
    (h : Br (n8 != 0) (Qf (.val (.d (.bool false))) g) (Br (intOf (fld y6 7) != IntKind.i64.wrap (intOf (fld y3 7) + 2)) (Qf (.val (.d (.bool false))) g) (EvF TT 18 [.agg [.nil, .int .i64 (intOf (fld (sub y3 1 7) 0)), .str (strOf (fld (sub y3 1 7) 1)), .str (strOf (fld (sub y3 1 7) 2)), .int .i64 (intOf (fld (sub y3 1 7) 3)), fld (sub y3 1 7) 4, fld (sub y3 1 7) 5, .int .i64 (intOf (fld (sub y3 1 7) 6))], y6, .bool false] g fun out g' => Outc (fun x => Qf (.panic x) g') (fun v => ∃ b, v = .d (.bool b) ∧ Br (!b) (Qf (.val (.d (.bool false))) g') (L4_11 n11 n14 y12 y9 y3 g' Qf)) out))) :
    L4_9 n8 n11 n14 y12 y9 y6 y3 g Qf := sx_cut (rk := rk) (loops := lo4) (joins := jo4) (n := 100000) (by kernel_rfl) h
theorem w4_11 {n11 : Int} {n14 : Int} {y12 : Dat} {y9 : Dat} {y3 : Dat} {g : Glob} {Qf : Out → Glob → Prop} 
    (h : Br (n11 == 0) (Br (intOf (fld y9 1) != 3) (Qf (.val (.d (.bool false))) g) (Br ((↑(elsOf (fld y9 5)).length : Int) != 1) (Qf (.val (.d (.bool false))) g) (InB 0 (elsOf (fld y9 5)).length ∧ EvF TT 18 [.agg [.nil, .int .i64 (intOf (fld (getE (elsOf (fld y9 5)) 0) 0)), .str (strOf (fld (getE (elsOf (fld y9 5)) 0) 1)), .str (strOf (fld (getE (elsOf (fld y9 5)) 0) 2)), .int .i64 (intOf (fld (getE (elsOf (fld y9 5)) 0) 3)), fld (getE (elsOf (fld y9 5)) 0) 4, fld (getE (elsOf (fld y9 5)) 0) 5, .int .i64 (intOf (fld (getE (elsOf (fld y9 5)) 0) 6))], y3, .bool false] g fun out g' => Outc (fun x => Qf (.panic x) g') (fun v => ∃ b, v = .d (.bool b) ∧ Br (!b) (Qf (.val (.d (.bool false))) g') (Br (n14 == 0) (Br (intOf (fld y12 1) != 5) (Qf (.val (.d (.bool false))) g') (Br ((↑(elsOf (fld y12 5)).length : Int) != 2) (Qf (.val (.d (.bool false))) g') (InB 1 (elsOf (fld y12 5)).length ∧ EvF TT 18 [.agg [.nil, .int .i64 (intOf (fld (getE (elsOf (fld y12 5)) 1) 0)), .str (strOf (fld (getE (elsOf (fld y12 5)) 1) 1)), .str (strOf (fld (getE (elsOf (fld y12 5)) 1) 2)), .int .i64 (intOf (fld (getE (elsOf (fld y12 5)) 1) 3)), fld (getE (elsOf (fld y12 5)) 1) 4, fld (getE (elsOf (fld y12 5)) 1) 5, .int .i64 (intOf (fld (getE (elsOf (fld y12 5)) 1) 6))], y3, .bool false] g' fun out g' => Outc (fun x => Qf (.panic x) g') (fun v => ∃ b, v = .d (.bool b) ∧ Br (!b) (Qf (.val (.d (.bool false))) g') (L4_13 n11 n14 g' Qf)) out))) (L4_13 n11 n14 g' Qf))) out))) (Br (n14 == 0) (Br (intOf (fld y12 1) != 5) (Qf (.val (.d (.bool false))) g) (Br ((↑(elsOf (fld y12 5)).length : Int) != 2) (Qf (.val (.d (.bool false))) g) (InB 1 (elsOf (fld y12 5)).length ∧ EvF TT 18 [.agg [.nil, .int .i64 (intOf (fld (getE (elsOf (fld y12 5)) 1) 0)), .str (strOf (fld (getE (elsOf (fld y12 5)) 1) 1)), .str (strOf (fld (getE (elsOf (fld y12 5)) 1) 2)), .int .i64 (intOf (fld (getE (elsOf (fld y12 5)) 1) 3)), fld (getE (elsOf (fld y12 5)) 1) 4, fld (getE (elsOf (fld y12 5)) 1) 5, .int .i64 (intOf (fld (getE (elsOf (fld y12 5)) 1) 6))], y3, .bool false] g fun out g' => Outc (fun x => Qf (.panic x) g') (fun v => ∃ b, v = .d (.bool b) ∧ Br (!b) (Qf (.val (.d (.bool false))) g') (L4_13 n11 n14 g' Qf)) out))) (L4_13 n11 n14 g Qf))) :
    L4_11 n11 n14 y12 y9 y3 g Qf := sx_cut (rk := rk) (loops := lo4) (joins := jo4) (n := 100000) (by kernel_rfl) h
theorem w4_13 {n11 : Int} {n14 : Int} {g : Glob} {Qf : Out → Glob → Prop} 
    (h : Br (n11 == 0) (Br (n14 == 0) (EvF TT 15 [] g fun out g' => Outc (fun x => Qf (.panic x) g') (fun v => ∃ b, v = .d (.bool b) ∧ Qf (.val (.d (.bool b))) g') out) (Br (n14 == 4) (EvF TT 15 [] g fun out g' => Outc (fun x => Qf (.panic x) g') (fun v => ∃ b, v = .d (.bool b) ∧ Qf (.val (.d (.bool b))) g') out) (Br (n14 == 3) (EvF TT 15 [] g fun out g' => Outc (fun x => Qf (.panic x) g') (fun v => ∃ b, v = .d (.bool b) ∧ Qf (.val (.d (.bool b))) g') out) (Qf (.val (.d (.bool false))) g)))) (Br (n11 == 4) (Br (n14 == 0) (EvF TT 15 [] g fun out g' => Outc (fun x => Qf (.panic x) g') (fun v => ∃ b, v = .d (.bool b) ∧ Qf (.val (.d (.bool b))) g') out) (Br (n14 == 4) (EvF TT 15 [] g fun out g' => Outc (fun x => Qf (.panic x) g') (fun v => ∃ b, v = .d (.bool b) ∧ Qf (.val (.d (.bool b))) g') out) (Br (n14 == 3) (EvF TT 15 [] g fun out g' => Outc (fun x => Qf (.panic x) g') (fun v => ∃ b, v = .d (.bool b) ∧ Qf (.val (.d (.bool b))) g') out) (Qf (.val (.d (.bool false))) g)))) (Br (n11 == 3) (Br (n14 == 0) (EvF TT 15 [] g fun out g' => Outc (fun x => Qf (.panic x) g') (fun v => ∃ b, v = .d (.bool b) ∧ Qf (.val (.d (.bool b))) g') out) (Br (n14 == 4) (EvF TT 15 [] g fun out g' => Outc (fun x => Qf (.panic x) g') (fun v => ∃ b, v = .d (.bool b) ∧ Qf (.val (.d (.bool b))) g') out) (Br (n14 == 3) (EvF TT 15 [] g fun out g' => Outc (fun x => Qf (.panic x) g') (fun v => ∃ b, v = .d (.bool b) ∧ Qf (.val (.d (.bool b))) g') out) (Qf (.val (.d (.bool false))) g)))) (Qf (.val (.d (.bool false))) g)))) :
    L4_13 n11 n14 g Qf := sx_cut (rk := rk) (loops := lo4) (joins := jo4) (n := 100000) (by kernel_rfl) h
end Go.Proofs.YtgmapdcdmomioaaGreatDoor.Pa
namespace Go.Proofs.YtgmapdcdmomioaaGreatDoor.Pa
open Go Go.Proofs.YtgmapdcdmomioaaGreatDoor.Am
variable {P : Int → Int → Prop} {en en' : Int} {r r0 r1 r' X Y : List Pk} {s u : Str} {a n m : Nat} {l acc : List Pk}
mutual
theorem ptW_same : ∀ {x y : Pt}, ptW P x y → szPt y = szPt x ∧ dpPt y = dpPt x ∧ flPt y = flPt x ∧ eqPt false x y = true ∧ eqPt false y x = true
  | .mk k s n a p, .mk k' s' n' a' p', h => by
    simp only [ptW] at h
    obtain ⟨rfl, rfl, rfl, ha, _⟩ := h
    obtain ⟨h0, h1, h2, h3, h4, h5⟩ := ptsW_same ha
    simp [szPt, dpPt, flPt, eqPt, h0, h1, h2, h3, h4, h5]
theorem ptsW_same : ∀ {x y : List Pt}, ptsW P x y → y.length = x.length ∧ szPts y = szPts x ∧ dpPts y = dpPts x ∧ flPts y = flPts x ∧ eqPts false x y = true ∧ eqPts false y x = true
  | [], [], _ => by simp [szPts, dpPts, flPts, eqPts]
  | x :: l, y :: m, h => by
    simp only [ptsW] at h
    obtain ⟨h1, h2, h3, h4, h5⟩ := ptW_same h.1
    obtain ⟨k0, k1, k2, k3, k4, k5⟩ := ptsW_same h.2
    simp [szPts, dpPts, flPts, eqPts, h1, h2, h3, h4, h5, k0, k1, k2, k3, k4, k5]
  | [], _ :: _, h => by simp [ptsW] at h
  | _ :: _, [], h => by simp [ptsW] at h
end
mutual
theorem exW_same : ∀ {x y : Ex'}, exW P x y → szEx y = szEx x ∧ dpEx y = dpEx x ∧ flEx y = flEx x ∧ eqEx false x y = true ∧ eqEx false y x = true
  | .mk k s u n a b p, .mk k' s' u' n' a' b' p', h => by
    simp only [exW] at h
    obtain ⟨rfl, rfl, rfl, rfl, ha, hb, _⟩ := h
    obtain ⟨h0, h1, h2, h3, h4, h5⟩ := exsW_same ha
    obtain ⟨k0, k1, k2, k3, k4, k5⟩ := ptsW_same hb
    simp [szEx, dpEx, flEx, eqEx, h0, h1, h2, h3, h4, h5, k0, k1, k2, k3, k4, k5]
theorem exsW_same : ∀ {x y : List Ex'}, exsW P x y → y.length = x.length ∧ szExs y = szExs x ∧ dpExs y = dpExs x ∧ flExs y = flExs x ∧ eqExs false x y = true ∧ eqExs false y x = true
  | [], [], _ => by simp [szExs, dpExs, flExs, eqExs]
  | x :: l, y :: m, h => by
    simp only [exsW] at h
    obtain ⟨h1, h2, h3, h4, h5⟩ := exW_same h.1
    obtain ⟨k0, k1, k2, k3, k4, k5⟩ := exsW_same h.2
    simp [szExs, dpExs, flExs, eqExs, h1, h2, h3, h4, h5, k0, k1, k2, k3, k4, k5]
  | [], _ :: _, h => by simp [exsW] at h
  | _ :: _, [], h => by simp [exsW] at h
end
theorem limF_same {x y : Ex'} (h : exW P x y) : limF (!flEx y) ⟨[], y⟩ = limF (!flEx x) ⟨[], x⟩ := by
  obtain ⟨h1, h2, h3, _⟩ := exW_same h
  simp only [limF, h1, h2, h3]
theorem limF_or (nw : Bool) (p : Pg) : limF nw p = 0 ∨ limF nw p = 3 ∨ limF nw p = 4 := by
  unfold limF
  cases gtI 32 p.ds.length || (gtI 2048 (upto 0 (szEx p.e)) || !nw)
  · cases p.ds.any badDc
    · cases gtI 256 ((max (dpEx p.e) (dpDcs p.ds) : Nat) : Int) <;> simp
    · simp
  · simp
theorem lex_tok {c : UInt8} {r : Str} {tk : Tk} {k : Nat} (hb : skipN (c :: r) = 0) (ht : tokF (c :: r) = (tk, k, 0)) (hl : acc.length < 4096) : lexA a (c :: r) acc = lexA (a + k) ((c :: r).drop k) (acc ++ [(tk, (a : Int))]) := by
  have h : (c :: r).drop (skipN (c :: r)) = c :: r := by rw [hb]; rfl
  rw [lexA_tok h (by rw [ht]; unfold lexErr; rw [if_neg (by omega)]), hb, ht]
  rfl
theorem lex_blank : lexA a (32 :: u) acc = lexA (a + 1) u acc := by
  have hs : skipN (32 :: u) = 1 + skipN u := by simp [skipN, blank]
  have hd : (32 :: u).drop (skipN (32 :: u)) = u.drop (skipN u) := by rw [hs, Nat.add_comm, List.drop_succ_cons]
  have e3 : a + (1 + skipN u) = a + 1 + skipN u := by omega
  cases hw : u.drop (skipN u) with
  | nil => rw [lexA_end (hd.trans hw), lexA_end hw]
  | cons c r =>
    by_cases he : lexErr (tokF (c :: r)).2.2 acc.length = 0
    · rw [lexA_tok (hd.trans hw) he, lexA_tok hw he, hs, e3]
    · rw [lexA_err (hd.trans hw) he, lexA_err hw he, hs, e3]
theorem lexA_nil : lexA a [] acc = .ok acc := lexA_end rfl
theorem lexA_len : ∀ (k a : Nat) (u : Str) (acc l : List Pk), u.length < k → lexA a u acc = .ok l → l.length ≤ acc.length + u.length
  | 0, _, _, _, _, h, _ => by omega
  | k + 1, a, u, acc, l, hk, h => by
    have hsk := skipN_le u
    cases hd : u.drop (skipN u) with
    | nil =>
      rw [lexA_end hd] at h
      cases h
      omega
    | cons c r =>
      have hl : (c :: r).length = u.length - skipN u := by rw [← hd]; exact List.length_drop ..
      by_cases he : lexErr (tokF (c :: r)).2.2 acc.length = 0
      · have h0 : (tokF (c :: r)).2.2 = 0 := by
          unfold lexErr at he
          split at he
          · cases he
          · exact he
        obtain ⟨_, m1, m2⟩ := tokF_good (p := 0) (Int.le_refl _) h0
        have hld : ((c :: r).drop (tokF (c :: r)).2.1).length = (c :: r).length - (tokF (c :: r)).2.1 := List.length_drop ..
        rw [lexA_tok hd he] at h
        have := lexA_len k _ _ _ _ (by omega) h
        rw [List.length_append, List.length_singleton] at this
        have hc : (c :: r).length = r.length + 1 := List.length_cons
        omega
      · rw [lexA_err hd he] at h
        cases h
theorem lexAll_A (hs : s.length ≤ 8192) : lexAll s = lexA 0 s [] := by
  unfold lexAll
  rw [if_neg (by omega)]
  rfl
def tO (p : Int) : Pk := ((6, sOpen, 0), p)
def tC (p : Int) : Pk := ((6, sClose, 0), p)
theorem stop_at (h : Stop X) : atNext X = false := by
  have := at_eq (P := fun _ _ => True) (r := []) (r0 := []) h trivial
  exact this
theorem stop_sg (h : Stop X) {l : Nat} : sgNext l X = false := by
  have := sg_eq (P := fun _ _ => True) (r := []) (r0 := []) (l := l) h trivial
  exact this
theorem stop_is (h : Stop X) {k : Int} {t : Str} (hk : ((k == 6 && t != sClose) || (k == 5 && t != kIn)) = true) (h0 : isK' k t [] = false) : isK' k t X = false := by
  have := is_eq (P := fun _ _ => True) (r := []) (r0 := []) h trivial hk
  simpa [h0] using this
theorem gBrack {v : Ex'} {p q : Int} (hY : Stop Y) (h : gEx en m r = .ok v (tC q :: Y)) : gEx en (m + 7) (tO p :: r) = .ok v Y := by
  have hA : gAtom en (m + 1) (tO p :: r) = .ok v Y := by
    rw [gAtom, if_neg (by simp [kdK, tO]), if_neg (by simp [kdK, tO]), if_neg (by simp [kdK, tO])]
    show (need en 6 sOpen (tO p :: r)).bind _ = _
    have e1 : need en 6 sOpen (tO p :: r) = .ok () r := rfl
    rw [e1]
    show (gEx en m r).bind _ = _
    rw [h]
    rfl
  have hP : gApp en (m + 2) (tO p :: r) = .ok v Y := by
    rw [gApp, if_neg (by simp [kdK, tO]), if_neg (by simp [isK', kdK, tO]), hA]
    show gAppArgs en (m + 1) v Y = _
    rw [gAppArgs, stop_at hY]
    rfl
  have h3 : gLev en (m + 3) 3 (tO p :: r) = .ok v Y := by
    rw [gLev]
    exact hP
  have hl : ∀ k l, l ≠ 3 → gLev en (k + 1) (l + 1) (tO p :: r) = .ok v Y → gLev en (k + 2) l (tO p :: r) = .ok v Y := fun k l hl h => by
    rw [gLev, if_neg (by simpa using hl), h]
    show gOps en (k + 1) l v Y = _
    rw [gOps, stop_sg hY]
    rfl
  have h2 := hl (m + 2) 2 (by decide) h3
  have h1 := hl (m + 3) 1 (by decide) h2
  have h0 := hl (m + 4) 0 (by decide) h1
  rw [gEx, if_neg (by simp [isK', kdK, tO]), if_neg (by simp [isK', kdK, tO]), if_neg (by simp [isK', kdK, tO]), if_neg (by simp [isK', kdK, tO]), h0]
  show (if isK' 6 sSemi Y = true then _ else _) = _
  rw [stop_is hY (by decide) rfl]
  rfl
theorem gProg_ds : ∀ (n : Nat) {l : List Dc} {r : List Pk} {v r'}, gProg en n l r = .ok v r' → l.length ≤ v.ds.length
  | 0, _, _, _, _, h => by simp [gProg] at h
  | n + 1, l, r, v, r', h => by
    rw [gProg] at h
    split at h
    · obtain ⟨d, r1, h1, h2⟩ := bind_ok h
      have := gProg_ds n h2
      rw [List.length_append] at this
      omega
    · obtain ⟨e, r1, h1, h2⟩ := bind_ok h
      split at h2
      · cases h2; exact Nat.le_refl _
      · cases h2
theorem gProg_ex {v : Pg} (h : gProg en (n + 1) [] r = .ok v r') (hv : v.ds = []) : gEx en n r = .ok v.e [] ∧ v = ⟨[], v.e⟩ := by
  rw [gProg] at h
  split at h
  · obtain ⟨d, r1, h1, h2⟩ := bind_ok h
    have := gProg_ds n h2
    rw [hv] at this
    simp at this
  · obtain ⟨e, r1, h1, h2⟩ := bind_ok h
    split at h2
    · rename_i q
      cases h2
      rw [List.isEmpty_iff.1 q] at h1
      exact ⟨h1, rfl⟩
    · cases h2
theorem gProg_of {e : Ex'} (hk : isK' 5 kType r = false) (h : gEx en n r = .ok e []) : gProg en (n + 1) [] r = .ok ⟨[], e⟩ [] := by
  rw [gProg, hk, h]
  rfl
theorem gEx_at {e : Ex'} (hX : Stop X) (h : gEx en n r = .ok e []) (hr : RelK P r r0) (hm : n ≤ m) : ∃ e', gEx en' m (r0 ++ X) = .ok e' X ∧ exW P e e' := by
  have := (rr_ex (P := P) (en := en) (en' := en') hX n).ex (m := m) hm hr
  rw [h] at this
  obtain ⟨e', r0', h1, h2, h3⟩ := this
  match r0', h3 with
  | [], _ => exact ⟨e', h1, h2⟩
theorem parseAll_of {t : Str} {l : List Pk} {v : Pg} {r' : List Pk} (hl : lexAll t = .ok l) (h : gProg t.length (16 * l.length + 9) [] l = .ok v r') : parseAll t = if limF (!flEx v.e) v = 0 then .ok v else .err 0 (limF (!flEx v.e) v) := by
  unfold parseAll
  rw [hl]
  dsimp only
  rw [h]
theorem parseAll_inv {v : Pg} (h : parseAll s = .ok v) (hv : v.ds = []) : ∃ l, lexAll s = .ok l ∧ gEx s.length (16 * l.length + 8) l = .ok v.e [] ∧ v = ⟨[], v.e⟩ ∧ limF (!flEx v.e) v = 0 := by
  unfold parseAll at h
  split at h
  · cases h
  · rename_i l hl
    split at h
    · rename_i v' r' hp
      split at h
      · rename_i h0
        cases h
        obtain ⟨h1, h2⟩ := gProg_ex hp hv
        exact ⟨l, hl, h1, h2, h0⟩
      · cases h
    · cases h
    · cases h
end Go.Proofs.YtgmapdcdmomioaaGreatDoor.Pa
namespace Go.Proofs.YtgmapdcdmomioaaGreatDoor.Pa
open Go Go.Proofs.YtgmapdcdmomioaaGreatDoor.Am
variable {s u : Str} {a n m : Nat} {l acc : List Pk} {v : Pg} {g : Glob} {Qf : Out → Glob → Prop}
theorem stopC {p : Int} {Y : List Pk} : Stop (tC p :: Y) := Or.inl ⟨rfl, rfl⟩
theorem stopI {p : Int} {Y : List Pk} : Stop (((5, kIn, 0), p) :: Y) := Or.inr ⟨rfl, rfl⟩
theorem lex_open (h : acc.length < 4096) : lexA a (40 :: u) acc = lexA (a + 1) u (acc ++ [tO a]) := lex_tok (k := 1) rfl rfl h
theorem lex_close (h : acc.length < 4096) : lexA a (41 :: u) acc = lexA (a + 1) u (acc ++ [tC a]) := lex_tok (k := 1) rfl rfl h
theorem lex_x (h : acc.length < 4096) : lexA a (120 :: 32 :: u) acc = lexA (a + 2) u (acc ++ [((1, [120], 0), (a : Int))]) := (lex_tok (k := 1) rfl rfl h).trans lex_blank
theorem lex_fun (h : acc.length < 4096) : lexA a (102 :: 117 :: 110 :: 32 :: u) acc = lexA (a + 4) u (acc ++ [((5, kFun, 0), (a : Int))]) := (lex_tok (k := 3) rfl rfl h).trans lex_blank
theorem lex_arrow (h : acc.length < 4096) : lexA a (45 :: 62 :: 32 :: u) acc = lexA (a + 3) u (acc ++ [((6, sArrow, 0), (a : Int))]) := (lex_tok (k := 2) rfl rfl h).trans lex_blank
theorem lex_let (h : acc.length < 4096) : lexA a (108 :: 101 :: 116 :: 32 :: u) acc = lexA (a + 4) u (acc ++ [((5, kLet, 0), (a : Int))]) := (lex_tok (k := 3) rfl rfl h).trans lex_blank
theorem lex_eq (h : acc.length < 4096) : lexA a (61 :: 32 :: u) acc = lexA (a + 2) u (acc ++ [((6, sEq, 0), (a : Int))]) := (lex_tok (k := 1) rfl rfl h).trans lex_blank
theorem lex_in (h : acc.length < 4096) : lexA a (105 :: 110 :: 32 :: u) acc = lexA (a + 3) u (acc ++ [((5, kIn, 0), (a : Int))]) := (lex_tok (k := 2) rfl rfl h).trans lex_blank
theorem relK_le {P Q : Int → Int → Prop} : ∀ {l l' : List Pk}, RelK P l l' → (∀ t ∈ l, ∀ y, P t.2 y → Q t.2 y) → RelK Q l l'
  | [], [], _, _ => trivial
  | t :: l, u :: m, h, hq => ⟨h.1, hq t List.mem_cons_self _ h.2.1, relK_le h.2.2 fun x hx => hq x (List.mem_cons_of_mem _ hx)⟩
theorem lex_at {b : Nat} (hl : lexAll s = .ok l) (hs : s.length ≤ 8192) (hn : acc.length + l.length ≤ 4096) : ∃ l2, RelK (fun x y => y = x + (b : Int)) l l2 ∧ lexA b s acc = .ok (acc ++ l2) := by
  rw [lexAll_A hs] at hl
  obtain ⟨l1, e, h1, _⟩ := lexA_at _ s 0 b [] acc l (Nat.lt_succ_self _) hl
  rw [List.nil_append] at e
  subst e
  obtain ⟨l2, k1, k2⟩ := h1 hn
  exact ⟨l2, by simpa using k1, k2⟩
def t1 (s : Str) : Str := 40 :: 40 :: (s ++ [10, 41, 41])
def t2 (s : Str) : Str := 102 :: 117 :: 110 :: 32 :: 120 :: 32 :: 45 :: 62 :: 32 :: s
def t3 (s : Str) : Str := 108 :: 101 :: 116 :: 32 :: 120 :: 32 :: 61 :: 32 :: (s ++ 10 :: 105 :: 110 :: 32 :: s)
theorem toks_few (hl : lexAll s = .ok l) (hs : s.length ≤ 4000) : l.length ≤ 4000 := by
  rw [lexAll_A (by omega)] at hl
  have := lexA_len _ _ _ _ _ (Nat.lt_succ_self _) hl
  rw [List.length_nil] at this
  omega
theorem brackets_ok (hs : s.length ≤ 4000) (h : parseAll s = .ok v) (hv : v.ds = []) : ∃ e, parseAll (t1 s) = .ok ⟨[], e⟩ ∧ exW (fun x y => y = x + 2 ∧ 0 ≤ x ∧ x ≤ 4000) v.e e := by
  obtain ⟨l, hl, he, hv', h0⟩ := parseAll_inv h hv
  have hn := toks_few hl hs
  obtain ⟨l2, hr, hlex⟩ := lex_at (b := 2) (acc := [tO 0, tO 1]) hl (by omega) (by show 2 + _ ≤ _; omega)
  have hlen := relK_len hr
  have hr' : RelK (fun x y => y = x + 2 ∧ 0 ≤ x ∧ x ≤ 4000) l l2 := relK_le hr fun t ht y hy => by
    have h1 := ((lexAll_good hl).1 t ht).pl
    have h2 := lexAll_pl hl t ht
    refine ⟨hy, h1, by omega⟩
  have hT : lexAll (t1 s) = .ok (tO 0 :: tO 1 :: (l2 ++ [tC ((2 + s.length + 1 : Nat) : Int), tC ((2 + s.length + 1 + 1 : Nat) : Int)])) := by
    rw [lexAll_A (by simp [t1]; omega)]
    unfold t1
    rw [lex_open (by simp), lex_open (by simp)]
    have := lexA_nl (w := [41, 41]) _ 2 s _ _ (Nat.lt_succ_self _) hlex
    refine Eq.trans this ?_
    rw [lex_close (by simp; omega), lex_close (by simp; omega), lexA_nil]
    simp
  obtain ⟨e, k1, k2⟩ := gEx_at (X := [tC ((2 + s.length + 1 : Nat) : Int), tC ((2 + s.length + 1 + 1 : Nat) : Int)]) (en' := (t1 s).length) (m := 16 * l.length + 58) stopC he hr' (by omega)
  have b1 := gBrack (p := 1) stopC k1
  have b2 := gBrack (p := 0) (Y := []) trivial b1
  have hp := gProg_of (r := tO 0 :: tO 1 :: (l2 ++ [tC ((2 + s.length + 1 : Nat) : Int), tC ((2 + s.length + 1 + 1 : Nat) : Int)])) (by simp [isK', kdK, tO]) b2
  refine ⟨e, ?_, k2⟩
  rw [parseAll_of hT (v := ⟨[], e⟩) (r' := []) ?_]
  · rw [hv'] at h0
    show (if limF (!flEx e) ⟨[], e⟩ = 0 then _ else _) = _
    rw [limF_same k2, if_pos h0]
  · have : 16 * (tO 0 :: tO 1 :: (l2 ++ [tC ((2 + s.length + 1 : Nat) : Int), tC ((2 + s.length + 1 + 1 : Nat) : Int)])).length + 9 = 16 * l.length + 58 + 7 + 7 + 1 := by
      simp only [List.length_cons, List.length_append, List.length_nil]
      omega
    rw [this]
    exact hp
def OrMany (Q : Ex' → Prop) : ParseR → Prop
  | .ok v => v.ds = [] ∧ Q v.e
  | .err _ e => e = 3 ∨ e = 4
theorem orMany_of {t : Str} {e : Ex'} {lt : List Pk} {r' : List Pk} {Q : Ex' → Prop} (hT : lexAll t = .ok lt) (hp : gProg t.length (16 * lt.length + 9) [] lt = .ok ⟨[], e⟩ r') (hQ : Q e) : OrMany Q (parseAll t) := by
  rw [parseAll_of hT hp]
  by_cases h0 : limF (!flEx e) ⟨[], e⟩ = 0
  · rw [if_pos h0]
    exact ⟨rfl, hQ⟩
  · rw [if_neg h0]
    rcases limF_or (!flEx e) ⟨[], e⟩ with h | h
    · exact absurd h h0
    · exact h
theorem fun_ok (hs : s.length ≤ 4000) (h : parseAll s = .ok v) (hv : v.ds = []) : OrMany (fun x => ∃ e, x = .mk 3 [120] [] 0 [e] [] 0 ∧ exW (fun _ _ => True) v.e e) (parseAll (t2 s)) := by
  obtain ⟨l, hl, he, hv', h0⟩ := parseAll_inv h hv
  have hn := toks_few hl hs
  obtain ⟨l2, hr, hlex⟩ := lex_at (b := 9) (acc := [((5, kFun, 0), 0), ((1, [120], 0), 4), ((6, sArrow, 0), 6)]) hl (by omega) (by show 3 + _ ≤ _; omega)
  have hlen := relK_len hr
  have hr' : RelK (fun _ _ => True) l l2 := relK_le hr fun _ _ _ _ => trivial
  have hT : lexAll (t2 s) = .ok (((5, kFun, 0), 0) :: ((1, [120], 0), 4) :: ((6, sArrow, 0), 6) :: l2) := by
    rw [lexAll_A (by simp [t2]; omega)]
    unfold t2
    rw [lex_fun (by simp), lex_x (by simp), lex_arrow (by simp)]
    exact hlex
  obtain ⟨e, k1, k2⟩ := gEx_at (X := []) (en' := (t2 s).length) (m := 16 * l.length + 55) trivial he hr' (by omega)
  rw [List.append_nil] at k1
  refine orMany_of hT (e := .mk 3 [120] [] 0 [e] [] 0) (r' := []) ?_ ⟨e, rfl, k2⟩
  have : 16 * (((5, kFun, 0), 0) :: ((1, [120], 0), 4) :: ((6, sArrow, 0), 6) :: l2 : List Pk).length + 9 = (16 * l.length + 55 + 1) + 1 := by
    simp only [List.length_cons]
    omega
  rw [this]
  refine gProg_of rfl ?_
  rw [gEx, if_pos (by rfl)]
  show (gEx _ _ l2).bind _ = _
  rw [k1]
  rfl
theorem let_ok (hs : s.length ≤ 4000) (h : parseAll s = .ok v) (hv : v.ds = []) : OrMany (fun x => ∃ a e, x = .mk 5 [120] [] 0 [a, e] [] 0 ∧ exW (fun _ _ => True) v.e e) (parseAll (t3 s)) := by
  obtain ⟨l, hl, he, hv', h0⟩ := parseAll_inv h hv
  have hn := toks_few hl hs
  obtain ⟨l2, hr, hlex⟩ := lex_at (b := 8) (acc := [((5, kLet, 0), 0), ((1, [120], 0), 4), ((6, sEq, 0), 6)]) hl (by omega) (by show 3 + _ ≤ _; omega)
  have hlen := relK_len hr
  have hr' : RelK (fun _ _ => True) l l2 := relK_le hr fun _ _ _ _ => trivial
  have e0 : lexAll (t3 s) = lexA (8 + s.length + 1 + 3) s ([((5, kLet, 0), 0), ((1, [120], 0), 4), ((6, sEq, 0), 6)] ++ l2 ++ [((5, kIn, 0), ((8 + s.length + 1 : Nat) : Int))]) := by
    rw [lexAll_A (by simp [t3]; omega)]
    unfold t3
    rw [lex_let (by simp), lex_x (by simp), lex_eq (by simp)]
    have := lexA_nl (w := 105 :: 110 :: 32 :: s) _ 8 s _ _ (Nat.lt_succ_self _) hlex
    refine Eq.trans this ?_
    rw [lex_in (by simp; omega)]
  rw [lexAll_A (by omega)] at hl
  obtain ⟨l1, e1, h1, h2⟩ := lexA_at _ s 0 (8 + s.length + 1 + 3) [] ([((5, kLet, 0), 0), ((1, [120], 0), 4), ((6, sEq, 0), 6)] ++ l2 ++ [((5, kIn, 0), ((8 + s.length + 1 : Nat) : Int))]) l (Nat.lt_succ_self _) hl
  rw [List.nil_append] at e1
  subst e1
  by_cases hc : ([((5, kLet, 0), 0), ((1, [120], 0), 4), ((6, sEq, 0), 6)] ++ l2 ++ [((5, kIn, 0), ((8 + s.length + 1 : Nat) : Int))] : List Pk).length + l.length ≤ 4096
  · obtain ⟨l3, j1, j2⟩ := h1 hc
    have hlen3 := relK_len j1
    have hr3 : RelK (fun _ _ => True) l l3 := relK_le j1 fun _ _ _ _ => trivial
    have hT : lexAll (t3 s) = .ok (((5, kLet, 0), 0) :: ((1, [120], 0), 4) :: ((6, sEq, 0), 6) :: (l2 ++ ((5, kIn, 0), ((8 + s.length + 1 : Nat) : Int)) :: l3)) := by
      rw [e0, j2]
      simp
    obtain ⟨a, i1, i2⟩ := gEx_at (X := ((5, kIn, 0), ((8 + s.length + 1 : Nat) : Int)) :: l3) (en' := (t3 s).length) (m := 32 * l.length + 70) stopI he hr' (by omega)
    obtain ⟨e, k1, k2⟩ := gEx_at (X := []) (en' := (t3 s).length) (m := 32 * l.length + 70) trivial he hr3 (by omega)
    rw [List.append_nil] at k1
    refine orMany_of hT (e := .mk 5 [120] [] 0 [a, e] [] 0) (r' := []) ?_ ⟨a, e, rfl, k2⟩
    have : 16 * (((5, kLet, 0), 0) :: ((1, [120], 0), 4) :: ((6, sEq, 0), 6) :: (l2 ++ ((5, kIn, 0), ((8 + s.length + 1 : Nat) : Int)) :: l3) : List Pk).length + 9 = (32 * l.length + 70 + 1 + 1) + 1 := by
      simp only [List.length_cons, List.length_append]
      omega
    rw [this]
    refine gProg_of rfl ?_
    have q1 : ∀ Z : List Pk, isK' 5 kFun (((5, kLet, 0), 0) :: Z) = false := fun _ => rfl
    have q2 : ∀ Z : List Pk, isK' 5 kLet (((5, kLet, 0), 0) :: Z) = true := fun _ => rfl
    have q3 : ∀ Z : List Pk, isK' 5 kRec (((1, [120], 0), 4) :: Z) = false := fun _ => rfl
    rw [gEx]
    simp only [q1, q2, List.tail_cons, q3, Bool.false_eq_true, if_false, if_true]
    show gLet _ (32 * l.length + 70 + 1) (.mk 5 [120] [] 0 [] [] 0) (((6, sEq, 0), 6) :: (l2 ++ ((5, kIn, 0), ((8 + s.length + 1 : Nat) : Int)) :: l3)) = _
    rw [gLet]
    show (gEx _ _ (l2 ++ _)).bind _ = _
    rw [i1]
    show (gEx _ _ l3).bind _ = _
    rw [k1]
    rfl
  · obtain ⟨p, hp⟩ := h2 (by omega) (by simp; omega)
    have : parseAll (t3 s) = .err p 3 := by
      unfold parseAll
      rw [e0, hp]
    rw [this]
    exact .inl rfl
end Go.Proofs.YtgmapdcdmomioaaGreatDoor.Pa
namespace Go.Proofs.YtgmapdcdmomioaaGreatDoor.Pa
open Go Go.Proofs.YtgmapdcdmomioaaGreatDoor.Am
variable {s : Str} {v : Pg} {g : Glob} {Qf : Out → Glob → Prop}
def pgX (x : Dat) : Dat := .agg [.nil, .int .i64 (intOf (fld x 0)), .str (strOf (fld x 1)), .str (strOf (fld x 2)), .int .i64 (intOf (fld x 3)), fld x 4, fld x 5, .int .i64 (intOf (fld x 6))]
theorem pgX_ok {x : Dat} (h : HasTy TT 27 x) : HasTy TT 29 (pgX x) ∧ absPg (pgX x) = ⟨[], absEx x⟩ := by
  have h0 := h
  obtain ⟨k, s, r, n, a, b, p, rfl, _⟩ := expr_ty h
  exact ⟨ty_prog nil_decls h0, rfl⟩
theorem same_ok {x y : Dat} (hx : HasTy TT 27 x) (hy : HasTy TT 29 y) (hd : (absPg y).ds = []) (he : eqEx false (absEx x) (absPg y).e = true) {K : Bool → Glob → Prop} (hK : K true g) : EvF TT 18 [pgX x, y, .bool false] g fun out g' => Outc (fun x => Qf (.panic x) g') (fun v => ∃ b, v = .d (.bool b) ∧ K b g') out := by
  obtain ⟨h1, h2⟩ := pgX_ok hx
  refine refSame_ok false _ _ g h1 hy _ ⟨_, rfl, ?_⟩
  have : eqPg false (absPg (pgX x)) (absPg y) = true := by
    rw [h2]
    unfold eqPg
    rw [hd, he]
    rfl
  rw [this]
  exact hK
def OrD (Q : Ex' → Prop) (n : Int) (y : Dat) : Prop := (n = 0 ∧ HasTy TT 29 y ∧ (absPg y).ds = [] ∧ Q (absPg y).e) ∨ (n = 3 ∨ n = 4)
theorem OrD.n {Q : Ex' → Prop} {n : Int} {y : Dat} (h : OrD Q n y) : n = 0 ∨ n = 3 ∨ n = 4 := h.imp (·.1) id
theorem br3 {A B : Prop} {n : Int} (hn : n = 0 ∨ n = 3 ∨ n = 4) (h : A) : Br (n == 0) A (Br (n == 4) A (Br (n == 3) A B)) := by
  rcases hn with rfl | rfl | rfl
  · exact Br_of rfl h
  · exact Br_no rfl (Br_no rfl (Br_of rfl h))
  · exact Br_no rfl (Br_of rfl h)
theorem end13 {n11 n14 : Int} (h1 : n11 = 0 ∨ n11 = 3 ∨ n11 = 4) (h2 : n14 = 0 ∨ n14 = 3 ∨ n14 = 4) (hQ : ∀ g, Qf (.val (.d (.bool true))) g) : L4_13 n11 n14 g Qf :=
  w4_13 (br3 h1 (br3 h2 (wakes_ok g _ ⟨_, rfl, hQ g⟩)))
theorem arg_of {y : Dat} {k : Int} {t : Str} {es : List Ex'} {i : Nat} {j : Int} (hj : j = i) (hy : HasTy TT 29 y) (he : (absPg y).e = .mk k t [] 0 es [] 0) (hi : i < es.length) :
    intOf (fld y 1) = k ∧ (elsOf (fld y 5)).length = es.length ∧ HasTy TT 27 (getE (elsOf (fld y 5)) j) ∧ absEx (getE (elsOf (fld y 5)) j) = es[i] := by
  subst hj
  obtain ⟨d, k', s', r', n', a, b, p, rfl, hd, hx⟩ := prog_ty hy
  obtain ⟨_, _, _, _, _, _, _, e0, _, _, ha, _⟩ := expr_ty hx
  injection e0 with e0
  injection e0 with e1 e0; injection e0 with e2 e0; injection e0 with e3 e0; injection e0 with e4 e0; injection e0 with e5 e0
  subst e5
  have he : Ex'.mk k' s' r' n' (absExA a) (absPtA b) p = .mk k t [] 0 es [] 0 := he
  injection he with q1 q2 q3 q4 q5 q6 q7
  rw [absExA_map] at q5
  have hl : (elsOf a).length = es.length := by rw [← q5, List.length_map]
  refine ⟨q1, hl, ?_, ?_⟩
  · show HasTy TT _ (getE (elsOf a) i)
    rw [getE_nat (by omega)]
    exact (ha.els undExprs).2 _ (List.getElem_mem _)
  · show absEx (getE (elsOf a) i) = _
    rw [getE_nat (by omega)]
    subst q5
    simp
theorem end11 {n11 n14 : Int} {y9 y12 d : Dat} (hd : HasTy TT 29 d) (hds : (absPg d).ds = []) (h1 : OrD (fun x => ∃ e, x = .mk 3 [120] [] 0 [e] [] 0 ∧ eqEx false e (absPg d).e = true) n11 y9)
    (h2 : OrD (fun x => ∃ a e, x = .mk 5 [120] [] 0 [a, e] [] 0 ∧ eqEx false e (absPg d).e = true) n14 y12) (hQ : ∀ g, Qf (.val (.d (.bool true))) g) : L4_11 n11 n14 y12 y9 d g Qf := by
  have k13 : ∀ g, L4_13 n11 n14 g Qf := fun g => end13 h1.n h2.n hQ
  have k2 : ∀ g, Br (n14 == 0) (Br (intOf (fld y12 1) != 5) (Qf (.val (.d (.bool false))) g) (Br (((elsOf (fld y12 5)).length : Int) != 2) (Qf (.val (.d (.bool false))) g) (InB 1 (elsOf (fld y12 5)).length ∧ EvF TT 18 [pgX (getE (elsOf (fld y12 5)) 1), d, .bool false] g fun out g' => Outc (fun x => Qf (.panic x) g') (fun v => ∃ b, v = .d (.bool b) ∧ Br (!b) (Qf (.val (.d (.bool false))) g') (L4_13 n11 n14 g' Qf)) out))) (L4_13 n11 n14 g Qf) := by
    intro g
    rcases h2 with ⟨rfl, hy, _, a, e, he, hq⟩ | h2
    · obtain ⟨a1, a2, a3, a4⟩ := arg_of (i := 1) (j := 1) rfl hy he (by simp)
      refine Br_of rfl (Br_no (by rw [a1]; rfl) (Br_no (by rw [a2]; rfl) ⟨by rw [a2]; exact inB (i := 1) (by simp), same_ok (x := getE (elsOf (fld y12 5)) 1) a3 hd hds ?_ ?_⟩))
      · rw [a4]; exact hq
      · exact Br_no rfl (k13 g)
    · exact Br_no (by rcases h2 with rfl | rfl <;> rfl) (k13 g)
  refine w4_11 ?_
  rcases h1 with ⟨rfl, hy, _, e, he, hq⟩ | h1
  · obtain ⟨a1, a2, a3, a4⟩ := arg_of (i := 0) (j := 0) rfl hy he (by simp)
    refine Br_of rfl (Br_no (by rw [a1]; rfl) (Br_no (by rw [a2]; rfl) ⟨by rw [a2]; exact inB (i := 0) (by simp), same_ok (x := getE (elsOf (fld y9 5)) 0) a3 hd hds ?_ ?_⟩))
    · exact a4 ▸ hq
    · exact Br_no rfl (k2 g)
  · exact Br_no (by rcases h1 with rfl | rfl <;> rfl) (k2 g)
theorem end9 {n11 n14 : Int} {y9 y12 d d1 : Dat} {e1 : Ex'} (hd : HasTy TT 29 d) (hds : (absPg d).ds = []) (ht1 : HasTy TT 29 d1) (hd1 : absPg d1 = ⟨[], e1⟩) (hx : exW (fun x y => y = x + 2 ∧ 0 ≤ x ∧ x ≤ 4000) (absPg d).e e1)
    (h1 : OrD (fun x => ∃ e, x = .mk 3 [120] [] 0 [e] [] 0 ∧ eqEx false e (absPg d).e = true) n11 y9)
    (h2 : OrD (fun x => ∃ a e, x = .mk 5 [120] [] 0 [a, e] [] 0 ∧ eqEx false e (absPg d).e = true) n14 y12) (hQ : ∀ g, Qf (.val (.d (.bool true))) g) : L4_9 0 n11 n14 y12 y9 d1 d g Qf := by
  have hat := exAtR hx
  have hsub : HasTy TT 27 (sub d 1 7) ∧ absEx (sub d 1 7) = (absPg d).e ∧ intOf (fld d 7) = exAt (absPg d).e := by
    obtain ⟨_, _, _, _, _, _, _, _, rfl, _, he⟩ := prog_ty hd
    exact ⟨he, rfl, rfl⟩
  have h7 : intOf (fld d1 7) = exAt e1 := by
    obtain ⟨_, _, _, _, _, _, _, _, rfl, _, he⟩ := prog_ty ht1
    exact congrArg (fun p => exAt p.e) hd1
  refine w4_9 (Br_no rfl (Br_no ?_ (same_ok (x := sub d 1 7) hsub.1 ht1 (by rw [hd1]) ?_ ?_)))
  · rw [h7, hsub.2.2, hat.1, wrap_id (by omega) (by omega)]
    simp
  · rw [hsub.2.1, hd1]
    exact (exW_same hx).2.2.2.1
  · exact Br_no rfl (end11 hd hds h1 h2 hQ)
theorem le_of {n : Nat} (h : n ≤ 8192) : n.le 1099511627776 := Nat.le_trans h (by decide)
theorem orMany_end {t : Str} {Q : Ex' → Prop} (ht : t.length ≤ 8192) (h : OrMany Q (parseAll t)) {K : Int → Dat → Glob → Prop} (hK : ∀ n y g, OrD Q n y → HasTy TT 29 y → K n y g) :
    EvF TT 16 [.str t] g fun out g' => Outc (fun x => Qf (.panic x) g') (fun v => ∃ x, HasTy TT 29 x ∧ ∃ n n_1, RetT v [x, .int .i64 n, .int .i64 n_1] ∧ K n_1 x g') out := by
  refine pParse_ok (by omega) ?_
  cases hp : parseAll t with
  | err p e =>
    rw [hp] at h
    intro g'
    exact ⟨zPg, zPg_ty, _, _, ⟨rfl, rfl, rfl, trivial⟩, hK _ _ _ (.inr h) zPg_ty⟩
  | ok v =>
    rw [hp] at h
    intro d g' hd ht
    exact ⟨d, ht, _, _, ⟨rfl, rfl, rfl, trivial⟩, hK _ _ _ (.inl ⟨rfl, ht, by rw [hd]; exact h.1, by rw [hd]; exact h.2⟩) ht⟩
theorem OrMany.mono {Q Q' : Ex' → Prop} (hq : ∀ x, Q x → Q' x) : ∀ {r : ParseR}, OrMany Q r → OrMany Q' r
  | .ok _, h => ⟨h.1, hq _ h.2⟩
  | .err _ _, h => h
theorem parseBracketsLaw (x : Dat) (g : Glob) (hx : HasTy TT 9 x) (hb : StrB x) (Qf : Out → Glob → Prop) (hQ : ∀ g, Qf (.val (.d (.bool true))) g) : EvF TT 4 [x] g Qf := by
  obtain ⟨s, rfl, hs⟩ := str_ty hx
  refine w4 hs (Br_iff.2 ⟨fun _ => wakes_ok g _ ⟨_, rfl, hQ g⟩, fun q => pParse_ok hs ?_⟩)
  have hl : s.length ≤ 4000 := by have := of_decide_eq_false q; omega
  cases hp : parseAll s with
  | err p e =>
    intro g'
    have hne := parseAll_ne hp
    refine ⟨zPg, zPg_ty, _, _, ⟨rfl, rfl, rfl, trivial⟩, Br_of (by simpa [bne] using hne) (Br_no (by simpa using hne) (refSame_ok true zPg zPg g' zPg_ty zPg_ty _ ⟨_, rfl, ?_⟩))⟩
    rw [eqPg_refl]
    exact Br_of rfl (wakes_ok g' _ ⟨_, rfl, hQ g'⟩)
  | ok v =>
    intro d g' hd ht
    refine ⟨d, ht, _, _, ⟨rfl, rfl, rfl, trivial⟩, Br_no rfl (Br_iff.2 ⟨fun _ => Br_of rfl (wakes_ok g' _ ⟨_, rfl, hQ g'⟩), fun q2 => ?_⟩)⟩
    have hv : v.ds = [] := by
      rw [← hd]
      have : (elsOf (fld d 0)).length = 0 := by have := of_decide_eq_false q2; omega
      show (elsOf (fld d 0)).map absDc = []
      rw [List.length_eq_zero_iff.1 this]
      rfl
    obtain ⟨e1, p1, x1⟩ := brackets_ok hl hp hv
    have hf := (fun_ok hl hp hv).mono (Q' := fun x => ∃ e, x = .mk 3 [120] [] 0 [e] [] 0 ∧ eqEx false e v.e = true) fun x ⟨e, h1, h2⟩ => ⟨e, h1, (exW_same h2).2.2.2.2⟩
    have hL := (let_ok hl hp hv).mono (Q' := fun x => ∃ a e, x = .mk 5 [120] [] 0 [a, e] [] 0 ∧ eqEx false e v.e = true) fun x ⟨a, e, h1, h2⟩ => ⟨a, e, h1, (exW_same h2).2.2.2.2⟩
    refine w4_6 ⟨le_of (by omega), le_of (by simp; omega), ?_⟩
    refine pParse_ok (s := t1 s) (by simp [t1]; omega) ?_
    rw [p1]
    intro d1 g1 hd1 ht1
    refine ⟨d1, ht1, _, _, ⟨rfl, rfl, rfl, trivial⟩, le_of (by omega), ?_⟩
    refine orMany_end (t := t2 s) (by simp [t2]; omega) hf fun n11 y9 g2 h11 ht9 => ?_
    refine ⟨le_of (by omega), le_of (by simp; omega), le_of (by simp; omega), ?_⟩
    have e3 : (108 :: 101 :: 116 :: 32 :: 120 :: 32 :: 61 :: 32 :: (s ++ [10, 105, 110, 32]) ++ s : Str) = t3 s := by simp [t3]
    rw [e3]
    refine orMany_end (t := t3 s) (by simp [t3]; omega) hL fun n14 y12 g3 h14 ht12 => ?_
    exact end9 ht (by rw [hd]; exact hv) ht1 hd1 (by rw [hd]; exact x1) (by rw [hd]; exact h11) (by rw [hd]; exact h14) hQ
end Go.Proofs.YtgmapdcdmomioaaGreatDoor.Pa
