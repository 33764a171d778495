/- Proved: both packages read a text alike (the law ParseReads, in plain words). -/
import Derived.Test.YtgmapdcdmomioaaGreatDoorRU
set_option linter.all false
set_option autoImplicit false
set_option maxRecDepth 100000
namespace Go.Proofs.YtgmapdcdmomioaaGreatDoor.Pa
open Go Go.Proofs.YtgmapdcdmomioaaGreatDoor.Am
variable {s : Str} {g : Glob} {Qf : Out → Glob → Prop}
theorem lexF_err : ∀ (n a : Nat) (u : Str) (acc : List Pk) (b : Nat) (e : Int), u.length < n → lexF n a u acc = .err b e → e ≠ 0 ∧ b ≤ a + u.length
 | 0, _, _, _, _, _, h, _ => by omega
 | n + 1, a, u, acc, b, e, hn, h => by
  rw [lexF] at h
  have hsk := skipN_le u
  split at h
  ·cases h
  ·rename_i c r hd
   have hl : (c :: r).length = u.length - skipN u := by rw [← hd]; exact List.length_drop ..
   split at h
   ·rename_i he
    have h0 : (tokF (c :: r)).2.2 = 0 := by
     unfold lexErr at he
     split at he
     ·cases he
     ·exact he
    obtain ⟨_, m1, m2⟩ := tokF_good (p := 0) (Int.le_refl _) h0
    have hld : ((c :: r).drop (tokF (c :: r)).2.1).length = (c :: r).length - (tokF (c :: r)).2.1 := List.length_drop ..
    obtain ⟨k1, k2⟩ := lexF_err n _ _ _ b e (by omega) h
    exact ⟨k1, by omega⟩
   ·rename_i he
    injection h with h1 h2
    subst h1 h2
    exact ⟨he, by omega⟩
theorem lexAll_err {b : Nat} {e : Int} (h : lexAll s = .err b e) : e ≠ 0 ∧ b ≤ s.length := by
 unfold lexAll at h
 split at h
 ·injection h with h1 h2
  subst h1 h2
  exact ⟨by decide, Nat.zero_le _⟩
 ·obtain ⟨k1, k2⟩ := lexF_err _ _ _ _ _ _ (by omega) h
  exact ⟨k1, by omega⟩
theorem lexAll_good {l : List Pk} (h : lexAll s = .ok l) : (∀ t ∈ l, GoodTk t) ∧ l.length ≤ 4096 := by
 unfold lexAll at h
 split at h
 ·cases h
 ·exact lexF_good _ _ _ _ l (fun t ht => by cases ht) (by simp) h
inductive ParseR where
 | ok (v : Pg)
 | err (p e : Int)
def parseAll (s : Str) : ParseR :=
 match lexAll s with
 | .err a e => .err a e
 | .ok l => match gProg s.length (16 * l.length + 9) [] l with
  | .ok v _ => if limF (!flEx v.e) v = 0 then .ok v else .err 0 (limF (!flEx v.e) v)
  | .bad p => .err p 120
  | .oof => .err 0 0
def PEnd (Qf : Out → Glob → Prop) : ParseR → Prop
 | .ok v => ∀ d g', absPg d = v → Ha TT 29 d → Qf (.val (ansT d 0 0)) g'
 | .err p e => ∀ g', Qf (.val (ansT zPg p e)) g'
theorem szTok : TT.size 43 = some 4 := by kernel_rfl
theorem byTok : TT.bytes 43 = some 40 := by kernel_rfl
theorem toks_ty {l : List Pk} (hg : ∀ t ∈ l, GoodTk t) (hl : l.length ≤ 4096) : Ha TT 37 (slOf 4 (l.map pkD)) :=
 sl_ty undToks szTok (slfit byTok (by decide) (by rw [List.length_map]; omega)) fun x hx => by
  obtain ⟨t, ht, rfl⟩ := List.mem_map.1 hx
  exact ty_tok (hg t ht).str
theorem pgback {x : Dat} (hx : Ha TT 29 x) (h : Qf (.val (ansT x 0 0)) g) : Qf (Out.val (Val.tuple [Val.d (Dat.agg [fld x 0, Dat.int IntKind.i64 (intOf (fld x 1)), Dat.str (strOf (fld x 2)), Dat.str (strOf (fld x 3)), Dat.int IntKind.i64 (intOf (fld x 4)), fld x 5, fld x 6, Dat.int IntKind.i64 (intOf (fld x 7))]), Val.d (Dat.int IntKind.i64 0), Val.d (Dat.int IntKind.i64 0)])) g := by
 obtain ⟨d1, k1, s1, r1, n1, a1, b1, p1, rfl, hd1, he1⟩ := prog_ty hx
 exact h
theorem pParse_ok (hs : s.length ≤ 2 ^ 40) (hQ : PEnd Qf (parseAll s)) : EvF TT 16 [.str s] g Qf := by
 unfold parseAll at hQ
 refine w16 hs (plex_ok hs ?_)
 cases hl : lexAll s with
 | err a e =>
  rw [hl] at hQ
  intro us hus
  exact ⟨.nil, .nil _ (by kernel_rfl), _, _, hus, Bo (by simpa [bne] using (lexAll_err hl).1) (hQ g)⟩
 | ok l =>
  rw [hl] at hQ
  dsimp only at hQ
  obtain ⟨hg, hlen⟩ := lexAll_good hl
  intro us hus
  refine ⟨_, toks_ty hg hlen, _, _, hus, Brn rfl ?_⟩
  refine parsed_ok (ts := l) (n := 16 * l.length + 9) (by rw [slOf_els]) (toks_ty hg hlen) hlen hg (Int.natCast_nonneg _) ?_
  cases hp : gProg s.length (16 * l.length + 9) [] l with
  | oof => exact absurd hp (gProg_ne _ (Nat.le_refl _))
  | bad p =>
   rw [hp] at hQ
   exact fun g' => ⟨zPg, zPg_ty, _, _, ⟨rfl, rfl, rfl, trivial⟩, Brn rfl (Bo rfl (hQ g'))⟩
  | ok v r' =>
   rw [hp] at hQ
   have hok := gProg_ok _ hg (by omega) (fun d hd => by cases hd) hp
   intro d g' hd ht
   refine ⟨d, ht, _, _, ⟨rfl, rfl, rfl, trivial⟩, Bo rfl (limited_ok ht (by rw [hd]; exact hok.pre) ⟨_, rfl, ?_⟩)⟩
   rw [hd, nw_flEx _ hok.ok]
   refine Bi.2 ⟨fun q => ?_, fun q => pgback ht ?_⟩
   ·have hQ : PEnd Qf (if limF (!flEx v.e) v = 0 then .ok v else .err 0 (limF (!flEx v.e) v)) := hQ
    rw [if_neg (by simpa [bne] using q)] at hQ
    exact hQ g'
   ·have hQ : PEnd Qf (if limF (!flEx v.e) v = 0 then .ok v else .err 0 (limF (!flEx v.e) v)) := hQ
    rw [if_pos (by simpa [bne] using q)] at hQ
    exact hQ d g' hd ht
theorem rParse_ok (hs : s.length ≤ 2 ^ 40) (hQ : PEnd Qf (parseAll s)) : EvF TT 17 [.str s] g Qf := by
 unfold parseAll at hQ
 refine w17 hs (rlex_ok hs ?_)
 cases hl : lexAll s with
 | err a e =>
  rw [hl] at hQ
  intro us hus
  exact ⟨.nil, .nil _ (by kernel_rfl), _, _, hus, Bo (by simpa [bne] using (lexAll_err hl).1) (hQ g)⟩
 | ok l =>
  rw [hl] at hQ
  dsimp only at hQ
  obtain ⟨hg, hlen⟩ := lexAll_good hl
  intro us hus
  refine ⟨_, toks_ty hg hlen, _, _, hus, Brn rfl ?_⟩
  refine rprog (V := ⟨g.boxes.length, slOf 4 (l.map pkD), l, s.length⟩) ⟨by rw [slOf_els], toks_ty hg hlen, hlen, hg, Int.natCast_nonneg _⟩ (16 * l.length + 9) (r := l) (l9 := []) ⟨⟨[], rfl, ?_⟩, fun p hp => by cases hp⟩ (fun d hd => by cases hd) (by show 0 + _ ≤ _; omega) ?_
  ·show (g.boxes ++ _)[g.boxes.length]? = _
   rw [List.getElem?_append_right (by omega), Nat.sub_self]
   rfl
  ·show PgEnd _ Qf (gProg s.length (16 * l.length + 9) [] l)
   cases hp : gProg s.length (16 * l.length + 9) [] l with
   | oof => exact absurd hp (gProg_ne _ (Nat.le_refl _))
   | bad p =>
    rw [hp] at hQ
    exact hQ
   | ok v r' =>
    rw [hp] at hQ
    have hQ : PEnd Qf (if limF (!flEx v.e) v = 0 then .ok v else .err 0 (limF (!flEx v.e) v)) := hQ
    intro d g' hd ht
    by_cases h0 : limF (!flEx v.e) v = 0
    ·rw [if_pos h0] at hQ ⊢
     exact hQ d g' hd ht
    ·rw [if_neg h0] at hQ ⊢
     exact hQ g'
theorem parseReadsLaw (x : Dat) (g : Glob) (hx : Ha TT 9 x) (hb : StrB x) (Qf : Out → Glob → Prop) (hQ : ∀ g, Qf (.val (.d (.bool true))) g) : EvF TT 3 [x] g Qf := by
 obtain ⟨s, rfl, hs⟩ := str_ty hx
 refine w3 hs (Bi.2 ⟨fun _ => wakes_ok g _ ⟨_, rfl, hQ g⟩, fun _ => pParse_ok hs ?_⟩)
 cases hp : parseAll s with
 | err p e =>
  intro g'
  refine ⟨zPg, zPg_ty, _, _, ⟨rfl, rfl, rfl, trivial⟩, rParse_ok hs ?_⟩
  rw [hp]
  intro g2
  refine ⟨zPg, zPg_ty, _, _, ⟨rfl, rfl, rfl, trivial⟩, Bo (by simp) (Bo (by simp) (refSame_ok true zPg zPg g2 zPg_ty zPg_ty _ ⟨_, rfl, ?_⟩))⟩
  rw [eqPg_refl]
  exact Bo rfl (wakes_ok g2 _ ⟨_, rfl, hQ g2⟩)
 | ok v =>
  intro d g' hd ht
  refine ⟨d, ht, _, _, ⟨rfl, rfl, rfl, trivial⟩, rParse_ok hs ?_⟩
  rw [hp]
  intro d2 g2 hd2 ht2
  refine ⟨d2, ht2, _, _, ⟨rfl, rfl, rfl, trivial⟩, Bo (by simp) (Bo (by simp) (refSame_ok true d d2 g2 ht ht2 _ ⟨_, rfl, ?_⟩))⟩
  rw [hd, hd2, eqPg_refl]
  exact Bo rfl (wakes_ok g2 _ ⟨_, rfl, hQ g2⟩)
end Go.Proofs.YtgmapdcdmomioaaGreatDoor.Pa
