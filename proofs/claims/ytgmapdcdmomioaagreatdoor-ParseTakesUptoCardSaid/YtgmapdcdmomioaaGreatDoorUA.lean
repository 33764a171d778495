/- Proved: both packages read a text alike (the law ParseReads, in plain words). The place of a first fault lies in the text; what was read is well formed (the law ParseTakes). -/
import Derived.Test.YtgmapdcdmomioaaGreatDoorRU
set_option linter.all false
set_option autoImplicit false
set_option maxRecDepth 100000
namespace Go.Proofs.YtgmapdcdmomioaaGreatDoor.Pa
open Go Go.Proofs.YtgmapdcdmomioaaGreatDoor.Am
variable {s : Str} {g : Glob} {Qf : Out → Glob → Prop}
theorem lexF_err : ∀ (n a : Nat) (u : Str) (acc : List Pk) (b : Nat) (e : Int), u.length < n → lexF n a u acc = .err b e → e ≠ 0 ∧ b ≤ a + u.length
  | 0, _, _, _, _, _, h, _ => by omega
  | n + 1, a, u, acc, b, e, hn, h => by
    rw [lexF] at h
    have hsk := skipN_le u
    split at h
    · cases h
    · rename_i c r hd
      have hl : (c :: r).length = u.length - skipN u := by rw [← hd]; exact List.length_drop ..
      split at h
      · rename_i he
        have h0 : (tokF (c :: r)).2.2 = 0 := by
          unfold lexErr at he
          split at he
          · cases he
          · exact he
        obtain ⟨_, m1, m2⟩ := tokF_good (p := 0) (Int.le_refl _) h0
        have hld : ((c :: r).drop (tokF (c :: r)).2.1).length = (c :: r).length - (tokF (c :: r)).2.1 := List.length_drop ..
        obtain ⟨k1, k2⟩ := lexF_err n _ _ _ b e (by omega) h
        exact ⟨k1, by omega⟩
      · rename_i he
        injection h with h1 h2
        subst h1 h2
        exact ⟨he, by omega⟩
theorem lexAll_err {b : Nat} {e : Int} (h : lexAll s = .err b e) : e ≠ 0 ∧ b ≤ s.length := by
  unfold lexAll at h
  split at h
  · injection h with h1 h2
    subst h1 h2
    exact ⟨by decide, Nat.zero_le _⟩
  · obtain ⟨k1, k2⟩ := lexF_err _ _ _ _ _ _ (by omega) h
    exact ⟨k1, by omega⟩
theorem lexAll_good {l : List Pk} (h : lexAll s = .ok l) : (∀ t ∈ l, GoodTk t) ∧ l.length ≤ 4096 := by
  unfold lexAll at h
  split at h
  · cases h
  · exact lexF_good _ _ _ _ l (fun t ht => by cases ht) (by simp) h
inductive ParseR where
  | ok (v : Pg)
  | err (p e : Int)
def parseAll (s : Str) : ParseR :=
  match lexAll s with
  | .err a e => .err a e
  | .ok l => match gProg s.length (16 * l.length + 9) [] l with
    | .ok v _ => if limF (!flEx v.e) v = 0 then .ok v else .err 0 (limF (!flEx v.e) v)
    | .bad p => .err p 120
    | .oof => .err 0 0
def PEnd (Qf : Out → Glob → Prop) : ParseR → Prop
  | .ok v => ∀ d g', absPg d = v → HasTy TT 29 d → Qf (.val (ansT d 0 0)) g'
  | .err p e => ∀ g', Qf (.val (ansT zPg p e)) g'
theorem szTok : TT.size 43 = some 4 := by kernel_rfl
theorem byTok : TT.bytes 43 = some 40 := by kernel_rfl
theorem toks_ty {l : List Pk} (hg : ∀ t ∈ l, GoodTk t) (hl : l.length ≤ 4096) : HasTy TT 37 (slOf 4 (l.map pkD)) :=
  sl_ty undToks szTok (slfit byTok (by decide) (by rw [List.length_map]; omega)) fun x hx => by
    obtain ⟨t, ht, rfl⟩ := List.mem_map.1 hx
    exact ty_tok (hg t ht).str
theorem pgback {x : Dat} (hx : HasTy TT 29 x) (h : Qf (.val (ansT x 0 0)) g) : Qf (Out.val (Val.tuple [Val.d (Dat.agg [fld x 0, Dat.int IntKind.i64 (intOf (fld x 1)), Dat.str (strOf (fld x 2)), Dat.str (strOf (fld x 3)), Dat.int IntKind.i64 (intOf (fld x 4)), fld x 5, fld x 6, Dat.int IntKind.i64 (intOf (fld x 7))]), Val.d (Dat.int IntKind.i64 0), Val.d (Dat.int IntKind.i64 0)])) g := by
  obtain ⟨d1, k1, s1, r1, n1, a1, b1, p1, rfl, hd1, he1⟩ := prog_ty hx
  exact h
theorem pParse_ok (hs : s.length ≤ 2 ^ 40) (hQ : PEnd Qf (parseAll s)) : EvF TT 16 [.str s] g Qf := by
  unfold parseAll at hQ
  refine w16 hs (plex_ok hs ?_)
  cases hl : lexAll s with
  | err a e =>
    rw [hl] at hQ
    intro us hus
    exact ⟨.nil, .nil _ (by kernel_rfl), _, _, hus, Br_of (by simpa [bne] using (lexAll_err hl).1) (hQ g)⟩
  | ok l =>
    rw [hl] at hQ
    dsimp only at hQ
    obtain ⟨hg, hlen⟩ := lexAll_good hl
    intro us hus
    refine ⟨_, toks_ty hg hlen, _, _, hus, Br_no rfl ?_⟩
    refine parsed_ok (ts := l) (n := 16 * l.length + 9) (by rw [slOf_els]) (toks_ty hg hlen) hlen hg (Int.natCast_nonneg _) ?_
    cases hp : gProg s.length (16 * l.length + 9) [] l with
    | oof => exact absurd hp (gProg_ne _ (Nat.le_refl _))
    | bad p =>
      rw [hp] at hQ
      exact fun g' => ⟨zPg, zPg_ty, _, _, ⟨rfl, rfl, rfl, trivial⟩, Br_no rfl (Br_of rfl (hQ g'))⟩
    | ok v r' =>
      rw [hp] at hQ
      have hok := gProg_ok _ ⟨List.suffix_refl _, hg⟩ (by omega) (fun d hd => by cases hd) hp
      intro d g' hd ht
      refine ⟨d, ht, _, _, ⟨rfl, rfl, rfl, trivial⟩, Br_of rfl (limited_ok ht (by rw [hd]; exact hok.pre) ⟨_, rfl, ?_⟩)⟩
      rw [hd, nw_flEx _ hok.ok]
      refine Br_iff.2 ⟨fun q => ?_, fun q => pgback ht ?_⟩
      · have hQ : PEnd Qf (if limF (!flEx v.e) v = 0 then .ok v else .err 0 (limF (!flEx v.e) v)) := hQ
        rw [if_neg (by simpa [bne] using q)] at hQ
        exact hQ g'
      · have hQ : PEnd Qf (if limF (!flEx v.e) v = 0 then .ok v else .err 0 (limF (!flEx v.e) v)) := hQ
        rw [if_pos (by simpa [bne] using q)] at hQ
        exact hQ d g' hd ht
end Go.Proofs.YtgmapdcdmomioaaGreatDoor.Pa
namespace Go.Proofs.YtgmapdcdmomioaaGreatDoor.Pa
open Go Go.Proofs.YtgmapdcdmomioaaGreatDoor.Am
variable {en : Int} {X r r1 r' : List Pk} {α β : Type}
def Sf (X : List Pk) (en : Int) : Res α → Prop
  | .ok _ r => r <:+ X
  | .bad p => ∃ r, r <:+ X ∧ p = plK en r
  | .oof => True
theorem Sf.bind {res : Res α} {f : α → List Pk → Res β} (h : Sf X en res) (k : ∀ a r1, r1 <:+ X → Sf X en (f a r1)) : Sf X en (res.bind f) := by
  cases res with
  | ok a r1 => exact k a r1 h
  | bad p => exact h
  | oof => trivial
theorem sf_tail (h : r <:+ X) : r.tail <:+ X := (List.tail_suffix r).trans h
theorem sf_bad (h : r <:+ X) : Sf X en (.bad (plK en r) : Res α) := ⟨r, h, rfl⟩
theorem sf_need {k : Int} {s : Str} (h : r <:+ X) : Sf X en (need en k s r) := by
  unfold need
  split
  · exact sf_tail h
  · exact sf_bad h
theorem sf_word {k : Int} (h : r <:+ X) : Sf X en (word1 en k r) := by
  unfold word1
  split
  · exact sf_tail h
  · exact sf_bad h
theorem sf_ty : ∀ n : Nat, (∀ r : List Pk, r <:+ X → Sf X en (gTyp en n r)) ∧ (∀ r : List Pk, r <:+ X → Sf X en (gTyapp en n r)) ∧ (∀ (t : Ty) (r : List Pk), r <:+ X → Sf X en (gTyArgs en n t r)) ∧ (∀ r : List Pk, r <:+ X → Sf X en (gTyatom en n r))
  | 0 => ⟨fun _ _ => trivial, fun _ _ => trivial, fun _ _ _ => trivial, fun _ _ => trivial⟩
  | n + 1 => by
    obtain ⟨i1, i2, i3, i4⟩ := sf_ty n
    refine ⟨fun r h => ?_, fun r h => ?_, fun t r h => ?_, fun r h => ?_⟩
    · rw [gTyp]
      refine (i2 _ h).bind fun t r1 h1 => ?_
      split
      · exact (i1 _ (sf_tail h1)).bind fun _ _ h2 => h2
      · exact h1
    · rw [gTyapp]
      split
      · exact i3 _ _ (sf_tail h)
      · exact i4 _ h
    · rw [gTyArgs]
      split
      · split
        · exact (i4 _ h).bind fun _ _ h1 => i3 _ _ h1
        · exact sf_bad h
      · exact h
    · rw [gTyatom]
      split
      · exact sf_tail h
      · split
        · exact sf_tail h
        · exact (sf_need h).bind fun _ _ h1 => (i1 _ h1).bind fun _ _ h2 => (sf_need h2).bind fun _ _ h3 => h3
theorem sf_pt : ∀ n : Nat, (∀ r : List Pk, r <:+ X → Sf X en (gPat en n r)) ∧ (∀ (t : Pt) (r : List Pk), r <:+ X → Sf X en (gPatArgs en n t r)) ∧ (∀ r : List Pk, r <:+ X → Sf X en (gPatom en n r))
  | 0 => ⟨fun _ _ => trivial, fun _ _ _ => trivial, fun _ _ => trivial⟩
  | n + 1 => by
    obtain ⟨i1, i3, i4⟩ := sf_pt n
    refine ⟨fun r h => ?_, fun t r h => ?_, fun r h => ?_⟩
    · rw [gPat]
      split
      · exact i3 _ _ (sf_tail h)
      · exact i4 _ h
    · rw [gPatArgs]
      split
      · exact (i4 _ h).bind fun _ _ h1 => i3 _ _ h1
      · exact h
    · rw [gPatom]
      split
      · exact sf_tail h
      · split
        · exact sf_tail h
        · split
          · exact sf_tail h
          · split
            · exact sf_tail h
            · exact (sf_need h).bind fun _ _ h1 => (i1 _ h1).bind fun _ _ h2 => (sf_need h2).bind fun _ _ h3 => h3
structure SfX (X : List Pk) (en : Int) (n : Nat) : Prop where
  ex : ∀ {r}, r <:+ X → Sf X en (gEx en n r)
  lt : ∀ {e r}, r <:+ X → Sf X en (gLet en n e r)
  br : ∀ {e r}, r <:+ X → Sf X en (gBr en n e r)
  lev : ∀ {l r}, r <:+ X → Sf X en (gLev en n l r)
  ops : ∀ {l e r}, r <:+ X → Sf X en (gOps en n l e r)
  app : ∀ {r}, r <:+ X → Sf X en (gApp en n r)
  con : ∀ {e r}, r <:+ X → Sf X en (gConArgs en n e r)
  args : ∀ {e r}, r <:+ X → Sf X en (gAppArgs en n e r)
  atom : ∀ {r}, r <:+ X → Sf X en (gAtom en n r)
theorem sf_ex : ∀ n : Nat, SfX X en n
  | 0 => by constructor <;> intros <;> simp [gEx, gLet, gBr, gLev, gOps, gApp, gConArgs, gAppArgs, gAtom, Sf]
  | n + 1 => by
    have I : SfX X en n := sf_ex n
    have P := (sf_pt (en := en) (X := X) n).1
    constructor
    · intro r h
      rw [gEx]
      split
      · exact (sf_word (sf_tail h)).bind fun _ _ h1 => (sf_need h1).bind fun _ _ h2 => (I.ex h2).bind fun _ _ h3 => h3
      · split
        · split
          · exact (sf_word (sf_tail (sf_tail h))).bind fun _ _ h1 => (sf_word h1).bind fun _ _ h2 => I.lt h2
          · exact (sf_word (sf_tail h)).bind fun _ _ h1 => I.lt h1
        · split
          · exact (I.ex (sf_tail h)).bind fun _ _ h1 => (sf_need h1).bind fun _ _ h2 => (I.ex h2).bind fun _ _ h3 => (sf_need h3).bind fun _ _ h4 => (I.ex h4).bind fun _ _ h5 => h5
          · split
            · exact (I.ex (sf_tail h)).bind fun _ _ h1 => (sf_need h1).bind fun _ _ h2 => I.br h2
            · refine (I.lev h).bind fun _ _ h1 => ?_
              split
              · exact (I.ex (sf_tail h1)).bind fun _ _ h2 => h2
              · exact h1
    · intro e r h
      rw [gLet]
      exact (sf_need h).bind fun _ _ h1 => (I.ex h1).bind fun _ _ h2 => (sf_need h2).bind fun _ _ h3 => (I.ex h3).bind fun _ _ h4 => h4
    · intro e r h
      rw [gBr]
      refine (P _ h).bind fun _ _ h1 => (sf_need h1).bind fun _ _ h2 => (I.ex h2).bind fun _ _ h3 => ?_
      split
      · exact I.br (sf_tail h3)
      · exact (sf_need h3).bind fun _ _ h4 => h4
    · intro l r h
      rw [gLev]
      split
      · exact I.app h
      · exact (I.lev h).bind fun _ _ h1 => I.ops h1
    · intro l e r h
      rw [gOps]
      split
      · refine (I.lev (sf_tail h)).bind fun _ _ h1 => ?_
        split
        · exact h1
        · exact I.ops h1
      · exact h
    · intro r h
      rw [gApp]
      split
      · exact (I.atom h).bind fun _ _ h1 => I.con h1
      · split
        · exact (I.atom (sf_tail h)).bind fun _ _ h1 => h1
        · exact (I.atom h).bind fun _ _ h1 => I.args h1
    · intro e r h
      rw [gConArgs]
      split
      · exact (I.atom h).bind fun _ _ h1 => I.con h1
      · exact h
    · intro e r h
      rw [gAppArgs]
      split
      · exact (I.atom h).bind fun _ _ h1 => I.args h1
      · exact h
    · intro r h
      rw [gAtom]
      split
      · exact sf_tail h
      · split
        · exact sf_tail h
        · split
          · exact sf_tail h
          · exact (sf_need h).bind fun _ _ h1 => (I.ex h1).bind fun _ _ h2 => (sf_need h2).bind fun _ _ h3 => h3
theorem sf_params : ∀ r : List Pk, (gParams r).2 <:+ r
  | [] => List.suffix_refl _
  | t :: r => by
    unfold gParams
    split
    · exact (sf_params r).trans (List.suffix_cons ..)
    · exact List.suffix_refl _
theorem sf_fields : ∀ (n : Nat) {l : List Ty} {r : List Pk}, r <:+ X → Sf X en (gFields en n l r)
  | 0, _, _, _ => trivial
  | n + 1, l, r, h => by
    rw [gFields]
    split
    · exact ((sf_ty n).2.2.2 _ h).bind fun _ _ h1 => sf_fields n h1
    · exact h
theorem sf_cons : ∀ (n : Nat) {l : List Cn} {r : List Pk}, r <:+ X → Sf X en (gCons en n l r)
  | 0, _, _, _ => trivial
  | n + 1, l, r, h => by
    rw [gCons]
    refine (sf_word h).bind fun _ _ h1 => (sf_fields n h1).bind fun _ _ h2 => ?_
    split
    · exact sf_cons n (sf_tail h2)
    · exact h2
theorem sf_decl {n : Nat} (h : r <:+ X) : Sf X en (gDecl en n r) := by
  unfold gDecl
  exact (sf_need h).bind fun _ _ h1 => (sf_word h1).bind fun _ r2 h2 => (sf_need ((sf_params r2).trans h2)).bind fun _ _ h3 => (sf_cons n h3).bind fun _ _ h4 => (sf_need h4).bind fun _ _ h5 => h5
theorem sf_prog : ∀ (n : Nat) {l : List Dc} {r : List Pk}, r <:+ X → Sf X en (gProg en n l r)
  | 0, _, _, _ => trivial
  | n + 1, l, r, h => by
    rw [gProg]
    split
    · exact (sf_decl h).bind fun _ _ h1 => sf_prog n h1
    · refine ((sf_ex n).ex h).bind fun _ _ h1 => ?_
      split
      · exact h1
      · exact sf_bad h1
theorem lexF_pl : ∀ (n a : Nat) (u : Str) (acc l : List Pk) (m : Int), ((a + u.length : Nat) : Int) ≤ m → (∀ t ∈ acc, t.2 ≤ m) → lexF n a u acc = .ok l → ∀ t ∈ l, t.2 ≤ m
  | 0, _, _, _, _, _, _, _, h => by cases h
  | n + 1, a, u, acc, l, m, hm, hg, h => by
    rw [lexF] at h
    have hsk := skipN_le u
    split at h
    · cases h; exact hg
    · rename_i c r hd
      have hl : (c :: r).length = u.length - skipN u := by rw [← hd]; exact List.length_drop ..
      split at h
      · rename_i he
        have h0 : (tokF (c :: r)).2.2 = 0 := by
          unfold lexErr at he
          split at he
          · cases he
          · exact he
        obtain ⟨_, m1, m2⟩ := tokF_good (p := 0) (Int.le_refl _) h0
        have hld : ((c :: r).drop (tokF (c :: r)).2.1).length = (c :: r).length - (tokF (c :: r)).2.1 := List.length_drop ..
        refine lexF_pl n _ _ _ l m (by omega) (fun t ht => ?_) h
        rcases List.mem_append.1 ht with ht | ht
        · exact hg t ht
        · rw [List.mem_singleton.1 ht]
          show ((a + skipN u : Nat) : Int) ≤ m
          omega
      · cases h
variable {s : Str} {g : Glob} {Qf : Out → Glob → Prop}
theorem lexAll_pl {l : List Pk} (h : lexAll s = .ok l) : ∀ t ∈ l, t.2 ≤ (s.length : Int) := by
  unfold lexAll at h
  split at h
  · cases h
  · exact lexF_pl _ _ _ _ l _ (by omega) (fun t ht => by cases ht) h
theorem parseAll_err {p e : Int} (h : parseAll s = .err p e) (hp : e ≠ 0) : 0 ≤ p ∧ p ≤ (s.length : Int) := by
  unfold parseAll at h
  split at h
  · rename_i a e' hl
    injection h with h1 h2
    subst h1 h2
    have := (lexAll_err hl).2
    omega
  · rename_i l hl
    split at h
    · split at h
      · cases h
      · injection h with h1 h2
        subst h1
        omega
    · rename_i q hq
      injection h with h1 h2
      subst h1 h2
      have := sf_prog (X := l) (en := (s.length : Int)) (16 * l.length + 9) (l := []) (List.suffix_refl l)
      rw [hq] at this
      obtain ⟨r, hr, rfl⟩ := this
      cases r with
      | nil => exact ⟨Int.natCast_nonneg _, Int.le_refl _⟩
      | cons t r =>
        have hm := hr.mem (List.mem_cons_self (a := t) (l := r))
        exact ⟨((lexAll_good hl).1 t hm).pl, lexAll_pl hl t hm⟩
    · injection h with h1 h2
      exact absurd h2.symm hp
theorem parseAll_ok {v : Pg} (h : parseAll s = .ok v) : POk v ∧ limF (!flEx v.e) v = 0 := by
  unfold parseAll at h
  split at h
  · cases h
  · rename_i l hl
    obtain ⟨hg, hlen⟩ := lexAll_good hl
    split at h
    · rename_i v' r' hp
      split at h
      · rename_i h0
        cases h
        exact ⟨gProg_ok _ ⟨List.suffix_refl _, hg⟩ (by omega) (fun d hd => by cases hd) hp, h0⟩
      · cases h
    · cases h
    · cases h
theorem parseAll_ne {p e : Int} (h : parseAll s = .err p e) : e ≠ 0 := by
  unfold parseAll at h
  split at h
  · rename_i a e' hl
    injection h with h1 h2
    subst h2
    exact (lexAll_err hl).1
  · rename_i l hl
    split at h
    · split at h
      · cases h
      · rename_i h0
        injection h with h1 h2
        subst h2
        exact h0
    · injection h with h1 h2
      subst h2
      decide
    · rename_i hq
      exact absurd hq (gProg_ne _ (Nat.le_refl _))
theorem okTys_of : ∀ {l : List Ty}, (∀ t ∈ l, okTy t = true) → okTys l = true
  | [], _ => rfl
  | t :: l, h => by simp only [okTys, h t List.mem_cons_self, okTys_of (l := l) fun u hu => h u (List.mem_cons_of_mem _ hu), Bool.true_and]
theorem okDc_of {d : Dc} (h : DOk d) : okDc d = true := by
  have h1 : ¬((d.cs.length : Int) == 0) = true := by
    have := List.length_pos_iff.2 h.ne
    simp; exact h.ne
  simp only [okDc, h.s, Bool.true_and, Bool.and_eq_true]
  refine ⟨by simpa using h1, List.all_eq_true.2 h.ps, List.all_eq_true.2 fun c hc => ?_⟩
  obtain ⟨c1, c2⟩ := h.cs c hc
  simp only [okCn, c1, Bool.true_and]
  exact okTys_of fun t ht => (c2 t ht).1
theorem POk.check {v : Pg} (h : POk v) (h0 : limF (!flEx v.e) v = 0) : checkP v = true := by
  unfold checkP
  rw [nw_flEx _ h.ok, h0, h.ok]
  simp only [Bool.true_and, Bool.and_eq_true]
  exact ⟨rfl, List.all_eq_true.2 fun d hd => okDc_of (h.ds d hd)⟩
theorem sz_pos (e : Ex') : 1 ≤ szEx e := by
  cases e
  simp only [szEx]
  omega
theorem upto_in {v : Pg} (h : limF (!flEx v.e) v = 0) : 1 ≤ upto 0 (szEx v.e) ∧ upto 0 (szEx v.e) ≤ 2048 := by
  have h1 := sz_pos v.e
  have h2 : gtI 2048 (upto 0 (szEx v.e)) = false := by
    cases q : gtI 2048 (upto 0 (szEx v.e)) with
    | false => rfl
    | true =>
      unfold limF at h
      rw [q] at h
      simp at h
  have h3 : ¬(2048 < upto 0 (szEx v.e)) := of_decide_eq_false h2
  refine ⟨?_, by omega⟩
  unfold upto at h3 ⊢
  split <;> omega
theorem parseTakesLaw (x : Dat) (g : Glob) (hx : HasTy TT 9 x) (hb : StrB x) (Qf : Out → Glob → Prop) (hQ : ∀ g, Qf (.val (.d (.bool true))) g) : EvF TT 8 [x] g Qf := by
  obtain ⟨s, rfl, hs⟩ := str_ty hx
  refine w8 hs (Br_iff.2 ⟨fun _ => wakes_ok g _ ⟨_, rfl, hQ g⟩, fun _ => pParse_ok hs ?_⟩)
  cases hp : parseAll s with
  | err p e =>
    intro g'
    refine ⟨zPg, zPg_ty, _, _, ⟨rfl, rfl, rfl, trivial⟩, Br_of (by simpa [bne] using parseAll_ne hp) (refSame_ok true zPg zPg g' zPg_ty zPg_ty _ ⟨_, rfl, ?_⟩)⟩
    rw [eqPg_refl]
    obtain ⟨h1, h2⟩ := parseAll_err hp (parseAll_ne hp)
    exact Br_of rfl (Br_of (decide_eq_true h1) (Br_of (decide_eq_true h2) (wakes_ok g' _ ⟨_, rfl, hQ g'⟩)))
  | ok v =>
    intro d g' hd ht
    obtain ⟨hok, h0⟩ := parseAll_ok hp
    obtain ⟨u1, u2⟩ := upto_in h0
    refine ⟨d, ht, _, _, ⟨rfl, rfl, rfl, trivial⟩, Br_no rfl (Br_of rfl (parseCheck_ok ht (by rw [hd]; exact hok.pre) ⟨_, rfl, ?_⟩))⟩
    rw [hd]
    refine Br_of (hok.check h0) (parseSize_ok d g' ht _ ⟨_, rfl, ?_⟩)
    rw [hd]
    refine Br_of (decide_eq_true u1) (parseSize_ok d g' ht _ ⟨_, rfl, ?_⟩)
    rw [hd]
    refine Br_of (decide_eq_true u2) (parseSame_ok d d g' ht ht _ ⟨_, rfl, ?_⟩)
    rw [eqPg_refl]
    exact Br_of rfl (wakes_ok g' _ ⟨_, rfl, hQ g'⟩)
end Go.Proofs.YtgmapdcdmomioaaGreatDoor.Pa
