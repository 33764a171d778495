/- Scope: names that are bound, counted in a numbered map; slices of names that grow. What functions of the program do, printed by wip/tools/sx/sx.py. Scope: what the functions on names do. Scope: what stands where names are bound; the document's free names. Scope: the document's free names. Scope: the program's free names. -/
import Derived.Test.YtgmapdcdmomioaaGreatDoorRF
import Derived.Test.YtgmapdcdmomioaaGreatDoorQH
set_option linter.all false
set_option autoImplicit false
set_option maxRecDepth 100000
namespace Go.Proofs.YtgmapdcdmomioaaGreatDoor.Pa
open Go Go.Proofs.YtgmapdcdmomioaaGreatDoor.Am
def cntF (c : Str → Nat) : Dat → Option Dat
  | .str s => if c s = 0 then none else some (.int .i64 (c s))
  | _ => none
theorem cntF_get (c : Str → Nat) (s : Str) : (cntF c (.str s)).getD (.int .i64 0) = .int .i64 (c s) := by
  unfold cntF
  simp only
  split
  · rename_i h; rw [h]; rfl
  · rfl
def setC (c : Str → Nat) (s : Str) (n : Nat) : Str → Nat := fun t => if t = s then n else c t
def adL (c : Str → Nat) (l : List Str) : Str → Nat := fun s => c s + l.count s
theorem updF_put (c : Str → Nat) (s : Str) {n : Nat} (h : n ≠ 0) : updF (cntF c) (.str s) (some (.int .i64 n)) = cntF (setC c s n) := by
  funext k
  by_cases hk : k = .str s
  · subst hk
    rw [uF]
    simp [cntF, setC, h]
  · rw [updF_ne _ _ hk]
    cases k with
    | str t =>
      have : t ≠ s := fun e => hk (by rw [e])
      simp [cntF, setC, this]
    | _ => rfl
theorem updF_del (c : Str → Nat) (s : Str) : updF (cntF c) (.str s) none = cntF (setC c s 0) := by
  funext k
  by_cases hk : k = .str s
  · subst hk
    rw [uF]
    simp [cntF, setC]
  · rw [updF_ne _ _ hk]
    cases k with
    | str t =>
      have : t ≠ s := fun e => hk (by rw [e])
      simp [cntF, setC, this]
    | _ => rfl
theorem updF_updF (F : Dat → Option Dat) (k : Dat) (a b : Option Dat) : updF (updF F k a) k b = updF F k b := by
  funext k'
  by_cases hk : k' = k
  · subst hk; rw [uF, uF]
  · rw [updF_ne _ _ hk, updF_ne _ _ hk, updF_ne _ _ hk]
theorem addL_nil (c : Str → Nat) : adL c [] = c := by funext s; simp [adL]
theorem addL_app (c : Str → Nat) (l l' : List Str) : adL (adL c l) l' = adL c (l ++ l') := by funext s; simp [adL, List.count_append, Nat.add_assoc]
theorem setC_inc (c : Str → Nat) (s : Str) : setC c s (c s + 1) = adL c [s] := by
  funext t
  unfold setC adL
  by_cases h : t = s
  · subst h; simp
  · have : (s == t) = false := by simpa using fun e => h e.symm
    simp [h, List.count_cons, this]
theorem setC_dec (c : Str → Nat) (s : Str) (l : List Str) : setC (adL c (s :: l)) s (adL c (s :: l) s - 1) = adL c l := by
  funext t
  unfold setC adL
  by_cases h : t = s
  · subst h; simp
  · have : (s == t) = false := by simpa using fun e => h e.symm
    simp [h, List.count_cons, this]
theorem addL_le (c : Str → Nat) (l : List Str) {n : Nat} (h : ∀ s, c s + l.length ≤ n) (s : Str) : adL c l s ≤ n := by
  have := h s
  have h2 := List.count_le_length (a := s) (l := l)
  unfold adL
  omega
theorem strKey (s : Str) : KeyIs true (.str s) = true := rfl
theorem map_inc {g : Glob} {i : Nat} {c : Str → Nat} (h : MI true g i (cntF c)) (s : Str) (hc : c s ≤ 2 ^ 60) :
    MLook g (some i) (.int .i64 0) (.str s) (.int .i64 (c s)) ((cntF c (.str s)).isSome) ∧ ∃ g', gmput g i (.str s) (.int .i64 (IntKind.i64.wrap ((c s : Int) + 1))) = some g' ∧ Oe i g g' ∧ MI true g' i (cntF (adL c [s])) := by
  have h1 := h.mlook (z := .int .i64 0) (strKey s)
  rw [cntF_get] at h1
  refine ⟨h1, ?_⟩
  obtain ⟨g', a, b, d⟩ := h.put (strKey s) (.int .i64 (IntKind.i64.wrap ((c s : Int) + 1)))
  refine ⟨g', a, b, ?_⟩
  rw [wra (by omega), updF_put _ _ (by omega), setC_inc] at d
  exact d
def Gr (b : Nat) (g : Glob) (x : Dat) (l : List Str) : Prop := (x = .nil ∧ l = []) ∨ ∃ k, x = .gsl k 1 (l.map .str) ∧ b ≤ k ∧ g.toks[k]? = some (1, l.length)
structure KeepT (b : Nat) (g g' : Glob) : Prop where
  boxes : g'.boxes = g.boxes
  len : g.toks.length ≤ g'.toks.length
  old : ∀ j, j < b → g'.toks[j]? = g.toks[j]?
theorem KeepT.refl (b : Nat) (g : Glob) : KeepT b g g := ⟨rfl, Nat.le_refl _, fun _ _ => rfl⟩
theorem KeepT.trans {b : Nat} {g g' g'' : Glob} (h : KeepT b g g') (k : KeepT b g' g'') : KeepT b g g'' := ⟨k.boxes.trans h.boxes, Nat.le_trans h.len k.len, fun j hj => (k.old j hj).trans (h.old j hj)⟩
theorem Gr.els {b : Nat} {g : Glob} {x : Dat} {l : List Str} (h : Gr b g x l) : elO x = l.map .str := by
  rcases h with ⟨rfl, rfl⟩ | ⟨k, rfl, _⟩ <;> rfl
theorem Gr.nil (b : Nat) (g : Glob) : Gr b g .nil [] := .inl ⟨rfl, rfl⟩
theorem Gr.toks {b : Nat} {g g' : Glob} {x : Dat} {l : List Str} (h : Gr b g x l) (hk : g'.toks = g.toks) : Gr b g' x l := by
  rcases h with h | ⟨k, h1, h2, h3⟩
  · exact .inl h
  · exact .inr ⟨k, h1, h2, by rw [hk]; exact h3⟩
theorem Gr.app {b : Nat} {g : Glob} {x : Dat} {l : List Str} (h : Gr b g x l) (hb : b ≤ g.toks.length) (s : Str) :
    ∃ r g', gapp 1 x [.str s] (gto g 1 1) = some (r, g') ∧ Gr b g' r (l ++ [s]) ∧ KeepT b g g' := by
  rcases h with ⟨rfl, rfl⟩ | ⟨k, rfl, h2, h3⟩
  · refine ⟨_, _, rfl, .inr ⟨(gto g 1 1).toks.length, rfl, ?_, ?_⟩, rfl, ?_, fun j hj => ?_⟩
    · simp only [gto, List.length_append]; omega
    · simp [gto]
    · simp only [gto, List.length_append]; omega
    · simp only [gto]
      rw [List.getElem?_append_left (by simp; omega), List.getElem?_append_left (by omega)]
  · have hk := (List.getElem?_eq_some_iff.1 h3).1
    have h4 : (gto g 1 1).toks[k]? = some (1, (l.map Dat.str).length) := by
      simp only [gto, List.getElem?_append_left hk, List.length_map]
      exact h3
    have hk' : k < (gto g 1 1).toks.length := (List.getElem?_eq_some_iff.1 h4).1
    refine ⟨.gsl k 1 (l.map .str ++ [.str s]), { gto g 1 1 with toks := (gto g 1 1).toks.set k (1, (l.map Dat.str).length + 1) }, ?_, .inr ⟨k, by rw [List.map_append]; rfl, h2, ?_⟩, rfl, ?_, fun j hj => ?_⟩
    · simp only [gapp, h4]
      simp
    · simp only [List.getElem?_set_self hk', List.length_append, List.length_map, List.length_cons, List.length_nil]
    · simp only [gto, List.length_set, List.length_append]; omega
    · simp only [gto]
      rw [List.getElem?_set_ne (by omega), List.getElem?_append_left (by omega)]
theorem fitS {n : Nat} (h : n ≤ 2 ^ 30) : Sl TT 9 n := ⟨by omega, fun b' hb' => by
  rw [byStr] at hb'
  cases hb'
  omega⟩
theorem fitS' {n : Nat} (h : n ≤ 2 ^ 30) : Fits n 16 := ⟨by omega, by omega⟩
theorem strs_gsl {k : Nat} {l : List Str} (hl : l.length ≤ 2 ^ 30) (hs : ∀ s ∈ l, s.length ≤ 2 ^ 40) : Ha TT 61 (.gsl k 1 (l.map .str)) :=
  .gsl _ _ _ _ _ uS szStr (by rw [List.length_map]; exact fitS hl) fun x hx => by
    obtain ⟨s, hs', rfl⟩ := List.mem_map.1 hx
    exact tyt (hs s hs')
theorem strs_sl {l : List Str} (hl : l.length ≤ 2 ^ 30) (hs : ∀ s ∈ l, s.length ≤ 2 ^ 40) : Ha TT 61 (.sl 1 (l.map .str)) :=
  .sl _ _ _ _ uS szStr (by rw [List.length_map]; exact fitS hl) fun x hx => by
    obtain ⟨s, hs', rfl⟩ := List.mem_map.1 hx
    exact tyt (hs s hs')
theorem strs_nil : Ha TT 61 .nil := .nil _ (by rw [uS]; rfl)
theorem Gr.ty {b : Nat} {g : Glob} {x : Dat} {l : List Str} (h : Gr b g x l) (hl : l.length ≤ 2 ^ 30) (hs : ∀ s ∈ l, s.length ≤ 2 ^ 40) : Ha TT 61 x := by
  rcases h with ⟨rfl, rfl⟩ | ⟨k, rfl, _⟩
  · exact strs_nil
  · exact strs_gsl hl hs
theorem strs_inv {x : Dat} (h : Ha TT 61 x) : ∃ l : List Str, elO x = l.map .str ∧ (∀ s ∈ l, s.length ≤ 2 ^ 40) ∧ l.length ≤ 2 ^ 40 := by
  obtain ⟨h1, h2⟩ := h.els uS
  refine ⟨(elO x).map strOf, ?_, fun s hs => ?_, by rw [List.length_map]; exact h1.1⟩
  · have key : ∀ l : List Dat, (∀ y ∈ l, Ha TT 9 y) → l = (l.map strOf).map .str := by
      intro l
      induction l with
      | nil => intro _; rfl
      | cons y l ih =>
        intro h
        obtain ⟨s, rfl, _⟩ := str_ty (h y List.mem_cons_self)
        simp only [List.map_cons]
        rw [← ih fun z hz => h z (List.mem_cons_of_mem _ hz)]
        rfl
    exact key _ h2
  · obtain ⟨y, hy, rfl⟩ := List.mem_map.1 hs
    obtain ⟨s, rfl, hl⟩ := str_ty (h2 y hy)
    exact hl
theorem strAt {x : Dat} {l : List Str} (h : elO x = l.map .str) {i : Nat} (hi : i < l.length) : strOf (fld (gtE (elO x) (i : Int)) 0) = l[i] := by
  rw [h, geE (by rw [List.length_map]; exact hi), List.getElem_map]
  rfl
theorem elsLen {x : Dat} {l : List Str} (h : elO x = l.map .str) : (elO x).length = l.length := by rw [h, List.length_map]
mutual
def varsP : Pt → List Str
  | .mk k s _ a _ => (if k == 2 then [s] else []) ++ vP a
def vP : List Pt → List Str
  | [] => []
  | x :: xs => varsP x ++ vP xs
end
def bn (k : Int) (s r : Str) (b : List Pt) (i : Nat) : List Str :=
  if k == 3 && i == 0 || k == 5 && i == 1 || k == 6 && i == 1 then [s]
  else if k == 6 && i == 0 then [s, r]
  else if k == 7 && (decide (0 < i) && decide (i ≤ b.length)) then varsP ((b[i - 1]?).getD default)
  else []
mutual
def fE : Ex' → List Str → List Str → List Str
  | .mk k s r _ a b _, bd, out => fre (bn k s r b) a 0 bd (if k == 1 && (!bd.contains s && !out.contains s) then out ++ [s] else out)
def fre (bi : Nat → List Str) : List Ex' → Nat → List Str → List Str → List Str
  | [], _, _, out => out
  | x :: xs, i, bd, out => fre bi xs (i + 1) bd (fE x (bd ++ bi i) out)
end
mutual
theorem varsP_len : ∀ x : Pt, (varsP x).length ≤ szPt x
  | .mk k s n a p => by
    have := varsPs_len a
    simp only [varsP, szPt, List.length_append]
    split <;> simp <;> omega
theorem varsPs_len : ∀ l : List Pt, (vP l).length ≤ szP l
  | [] => Nat.le_refl _
  | x :: xs => by
    have h1 := varsP_len x
    have h2 := varsPs_len xs
    simp only [vP, szP, List.length_append]
    omega
end
theorem szPts_mem {l : List Pt} {i : Nat} {x : Pt} (h : l[i]? = some x) : szPt x ≤ szP l := by
  induction l generalizing i with
  | nil => simp at h
  | cons y l ih =>
    cases i with
    | zero => simp at h; subst h; simp only [szP]; omega
    | succ i => have := ih (i := i) (by simpa using h); simp only [szP]; omega
theorem bindsOf_len (k : Int) (s r : Str) (b : List Pt) (i : Nat) : (bn k s r b i).length ≤ 2 + szP b := by
  unfold bn
  split
  · simp only [List.length_cons, List.length_nil]; omega
  · split
    · simp only [List.length_cons, List.length_nil]; omega
    · split
      · cases h : b[i - 1]? with
        | none => simp only [Option.getD_none]; exact Nat.le_trans (varsP_len _) (by show szPt (.mk 0 [] 0 [] 0) ≤ _; simp only [szPt, szP]; omega)
        | some x => simp only [Option.getD_some]; exact Nat.le_trans (varsP_len _) (Nat.le_trans (szPts_mem h) (by omega))
      · simp
theorem varsPs_drop {xs : List Dat} {i : Nat} (hi : i < xs.length) : vP ((xs.drop i).map aP) = varsP (aP xs[i]) ++ vP ((xs.drop (i + 1)).map aP) := by
  rw [List.drop_eq_getElem_cons hi]; rfl
theorem freeEs_drop (bi : Nat → List Str) {xs : List Dat} {i : Nat} (hi : i < xs.length) (bd out : List Str) : fre bi ((xs.drop i).map ax) i bd out = fre bi ((xs.drop (i + 1)).map ax) (i + 1) bd (fE (ax xs[i]) (bd ++ bi i) out) := by
  rw [List.drop_eq_getElem_cons hi]; rfl
end Go.Proofs.YtgmapdcdmomioaaGreatDoor.Pa
namespace Go.Proofs.YtgmapdcdmomioaaGreatDoor.Pa
open Go Go.Proofs.YtgmapdcdmomioaaGreatDoor.Am
def L160_4 (x0 : Dat) (x16 : Dat) (n17 : Int) (n18 : Int) (g : Glob) (Qf : OGP) : Prop := CP TT Tryz.f160 [1, 1, 0, 1, 0] Qf (mkC TT 160 Tryz.f160 2 [(0, .v 61 (x0)), (16, .v 25 (x16)), (17, .v 3 (.int .i64 n17)), (18, .v 3 (.int .i64 n18))] [] g)
def lo160 : List CuI := [⟨4, [(0, .keep), (16, .keep), (17, .keep), (18, .keep)], []⟩]
theorem w160 {x0 : Dat} {x1 : Dat} {g : Glob} {Qf : OGP} (h0 : Ha TT 61 x0) (h1 : Ha TT 127 x1)
    (h : Br (intOf (fld x1 0) == 2) (Fits ((elO x0).length + [Dat.str (strOf (fld x1 1))].length) 16 ∧ ∃ r g', gapp 1 x0 [.str (strOf (fld x1 1))] (gto g 1 1) = some (r, g') ∧ L160_4 r (fld x1 3) (↑(elO (fld x1 3)).length : Int) 0 g' Qf) (L160_4 x0 (fld x1 3) (↑(elO (fld x1 3)).length : Int) 0 g Qf)) :
    EvF TT 160 [x0, x1] g Qf :=
  su (rk := rk) (fn := Tryz.f160) (loops := lo160) (joins := []) (n := 100000) (args := [(61, x0), (127, x1)]) rfl rfl rfl rfl ⟨h0, h1, trivial⟩ (by kernel_rfl) h
theorem w160_4 {x0 : Dat} {x16 : Dat} {n17 : Int} {n18 : Int} {g : Glob} {Qf : OGP} 
    (h : Br (decide (n18 < n17)) (InB n18 (elO x16).length ∧ EvF TT 160 [x0, gtE (elO x16) n18] g (KQ Qf fun v g' => ∃ x, Ha TT 61 x ∧ Rt v x ∧ L160_4 x x16 n17 (IntKind.i64.wrap (n18 + 1)) g' Qf)) (∀ (v : Val), Rt v x0 → Qf (.val v) g)) :
    L160_4 x0 x16 n17 n18 g Qf := sxc (rk := rk) (loops := lo160) (joins := []) (n := 100000) (by kernel_rfl) h
def L91_4 (n1 : Int) (b5 : Bool) (y2 : Dat) (g : Glob) (Qf : OGP) : Prop := CP TT Tryz.f91 [1, 0, 0, 1] Qf (mkC TT 91 Tryz.f91 2 [(1, .v 3 (.int .i64 n1)), (2, .loc 2 0 0), (5, .v 4 (.bool b5))] [(2, .whole 27 y2)] g)
def lo91 : List CuI := []
def jo91 : List CuI := [⟨4, [(1, .keep), (2, .keep), (5, .keep)], [(2, .whole 27)]⟩]
theorem w91 {x0 : Dat} {n1 : Int} {g : Glob} {Qf : OGP} (h0 : Ha TT 27 x0)
    (h : Br (intOf (fld x0 0) == 3) (Br (n1 == 0) (L91_4 n1 (n1 == 0) x0 g Qf) (Br (intOf (fld x0 0) == 5) (Br (n1 == 1) (L91_4 n1 (n1 == 1) x0 g Qf) (Br (intOf (fld x0 0) == 6) (L91_4 n1 (n1 == 1) x0 g Qf) (L91_4 n1 false x0 g Qf))) (Br (intOf (fld x0 0) == 6) (L91_4 n1 (n1 == 1) x0 g Qf) (L91_4 n1 false x0 g Qf)))) (Br (intOf (fld x0 0) == 5) (Br (n1 == 1) (L91_4 n1 (n1 == 1) x0 g Qf) (Br (intOf (fld x0 0) == 6) (L91_4 n1 (n1 == 1) x0 g Qf) (L91_4 n1 false x0 g Qf))) (Br (intOf (fld x0 0) == 6) (L91_4 n1 (n1 == 1) x0 g Qf) (L91_4 n1 false x0 g Qf)))) :
    EvF TT 91 [x0, .int .i64 n1] g Qf :=
  su (rk := rk) (fn := Tryz.f91) (loops := lo91) (joins := jo91) (n := 100000) (args := [(27, x0), (3, .int .i64 n1)]) rfl rfl rfl rfl ⟨h0, tyI rfl, trivial⟩ (by kernel_rfl) h
theorem w91_4 {n1 : Int} {b5 : Bool} {y2 : Dat} {g : Glob} {Qf : OGP} 
    (h : Br b5 (Qf (.val (.uq 1 [.str (strOf (fld y2 1))])) g) (Br (intOf (fld y2 0) == 6) (Br (n1 == 0) (Qf (.val (.uq 1 [.str (strOf (fld y2 1)), .str (strOf (fld y2 2))])) g) (Br (intOf (fld y2 0) == 7) (Br (decide (0 < n1)) (Br (decide (n1 ≤ (↑(elO (fld y2 5)).length : Int))) (InB (IntKind.i64.wrap (n1 - 1)) (elO (fld y2 5)).length ∧ EvF TT 160 [.nil, gtE (elO (fld y2 5)) (IntKind.i64.wrap (n1 - 1))] g (KQ Qf fun v g' => ∃ x, Ha TT 61 x ∧ Rt v x ∧ ∀ (v : Val), Rt v x → Qf (.val v) g')) (∀ (v : Val), Rt v .nil → Qf (.val v) g)) (∀ (v : Val), Rt v .nil → Qf (.val v) g)) (∀ (v : Val), Rt v .nil → Qf (.val v) g))) (Br (intOf (fld y2 0) == 7) (Br (decide (0 < n1)) (Br (decide (n1 ≤ (↑(elO (fld y2 5)).length : Int))) (InB (IntKind.i64.wrap (n1 - 1)) (elO (fld y2 5)).length ∧ EvF TT 160 [.nil, gtE (elO (fld y2 5)) (IntKind.i64.wrap (n1 - 1))] g (KQ Qf fun v g' => ∃ x, Ha TT 61 x ∧ Rt v x ∧ ∀ (v : Val), Rt v x → Qf (.val v) g')) (∀ (v : Val), Rt v .nil → Qf (.val v) g)) (∀ (v : Val), Rt v .nil → Qf (.val v) g)) (∀ (v : Val), Rt v .nil → Qf (.val v) g)))) :
    L91_4 n1 b5 y2 g Qf := sxc (rk := rk) (loops := lo91) (joins := jo91) (n := 100000) (by kernel_rfl) h
def L90_1 (p0 : Nat) (x1 : Dat) (f2 : FuncId) (c2 : List Dat) (x10 : Dat) (n11 : Int) (n12 : Int) (g : Glob) (Qf : OGP) : Prop := CP TT Tryz.f90 [0, 1, 0] Qf (mkC TT 90 Tryz.f90 3 [(0, .v 107 (.ptr (some (p0, 0)))), (1, .v 61 (x1)), (2, .v 1 (.clo f2 c2)), (10, .v 61 (x10)), (11, .v 3 (.int .i64 n11)), (12, .v 3 (.int .i64 n12))] [] g)
def L90_7 (p0 : Nat) (x26 : Dat) (n27 : Int) (n28 : Int) (g : Glob) (Qf : OGP) : Prop := CP TT Tryz.f90 [1, 1, 1, 0] Qf (mkC TT 90 Tryz.f90 3 [(0, .v 107 (.ptr (some (p0, 0)))), (26, .v 61 (x26)), (27, .v 3 (.int .i64 n27)), (28, .v 3 (.int .i64 n28))] [] g)
def lo90 : List CuI := [⟨1, [(0, .keep), (1, .keep), (2, .keep), (10, .keep), (11, .keep), (12, .keep)], []⟩, ⟨7, [(0, .keep), (26, .keep), (27, .keep), (28, .keep)], []⟩]
theorem w90 {p0 : Nat} {x1 : Dat} {f2 : FuncId} {c2 : List Dat} {g : Glob} {Qf : OGP} (h1 : Ha TT 61 x1)
    (h : L90_1 p0 x1 f2 c2 x1 (↑(elO x1).length : Int) 0 g Qf) :
    EvF TT 90 [.ptr (some (p0, 0)), x1, .clo f2 c2] g Qf :=
  su (rk := rk) (fn := Tryz.f90) (loops := lo90) (joins := []) (n := 100000) (args := [(107, .ptr (some (p0, 0))), (61, x1), (1, .clo f2 c2)]) rfl rfl rfl rfl ⟨tyPtr rfl, h1, tyClo rfl, trivial⟩ (by kernel_rfl) h
theorem w90_1 {p0 : Nat} {x1 : Dat} {f2 : FuncId} {c2 : List Dat} {x10 : Dat} {n11 : Int} {n12 : Int} {g : Glob} {Qf : OGP} 
    (h : Br (decide (n12 < n11)) (InB n12 (elO x10).length ∧ ∃ i, GOk TT 108 g p0 1 (Dat.map (some i)) ∧ ∃ n b, MLook g (some i) (.int .i64 0) (.str (strOf (fld (gtE (elO x10) n12) 0))) (.int .i64 n) b ∧ ∃ g', gmput g i (.str (strOf (fld (gtE (elO x10) n12) 0))) (.int .i64 (IntKind.i64.wrap (n + 1))) = some g' ∧ L90_1 p0 x1 f2 c2 x10 n11 (IntKind.i64.wrap (n12 + 1)) g' Qf) (EvF TT f2 c2 g (KQ Qf fun v g' => Ret v [] ∧ L90_7 p0 x1 (↑(elO x1).length : Int) 0 g' Qf))) :
    L90_1 p0 x1 f2 c2 x10 n11 n12 g Qf := sxc (rk := rk) (loops := lo90) (joins := []) (n := 100000) (by kernel_rfl) h
theorem w90_7 {p0 : Nat} {x26 : Dat} {n27 : Int} {n28 : Int} {g : Glob} {Qf : OGP} 
    (h : Br (decide (n28 < n27)) (InB n28 (elO x26).length ∧ ∃ i, GOk TT 108 g p0 1 (Dat.map (some i)) ∧ ∃ n b, MLook g (some i) (.int .i64 0) (.str (strOf (fld (gtE (elO x26) n28) 0))) (.int .i64 n) b ∧ ∃ g', gmput g i (.str (strOf (fld (gtE (elO x26) n28) 0))) (.int .i64 (IntKind.i64.wrap (n - 1))) = some g' ∧ ∃ i, GOk TT 108 g' p0 1 (Dat.map (some i)) ∧ ∃ n b, MLook g' (some i) (.int .i64 0) (.str (strOf (fld (gtE (elO x26) n28) 0))) (.int .i64 n) b ∧ Br (n == 0) (∃ i, GOk TT 108 g' p0 1 (Dat.map (some i)) ∧ ∃ g'_1, gmdel g' i (.str (strOf (fld (gtE (elO x26) n28) 0))) = some g'_1 ∧ L90_7 p0 x26 n27 (IntKind.i64.wrap (n28 + 1)) g'_1 Qf) (L90_7 p0 x26 n27 (IntKind.i64.wrap (n28 + 1)) g' Qf)) (Qf (.val (.tuple [])) g)) :
    L90_7 p0 x26 n27 n28 g Qf := sxc (rk := rk) (loops := lo90) (joins := []) (n := 100000) (by kernel_rfl) h
def lo92 : List CuI := []
theorem w92 {p0 : Nat} {p1 : Nat} {g : Glob} {Qf : OGP} 
    (h : ∃ f c, GOk TT 111 g p0 0 (.clo f c) ∧ ∃ x, Ha TT 27 x ∧ GOk TT 27 g p1 0 x ∧ EvF TT f (x :: c) g (KQ Qf fun v g' => Ret v [] ∧ Qf (.val (.tuple [])) g')) :
    EvF TT 92 [.ptr (some (p0, 0)), .ptr (some (p1, 0))] g Qf :=
  su (rk := rk) (fn := Tryz.f92) (loops := lo92) (joins := []) (n := 100000) (args := [(0, .ptr (some (p0, 0))), (0, .ptr (some (p1, 0)))]) rfl rfl rfl rfl ⟨tyPtr0 rfl, tyPtr0 rfl, trivial⟩ (by kernel_rfl) h
def L89_6 (p1 : Nat) (p4 : Nat) (x37 : Dat) (n38 : Int) (n39 : Int) (y5 : Dat) (g : Glob) (Qf : OGP) : Prop := CP TT Tryz.f89 [1, 1, 1, 0] Qf (mkC TT 89 Tryz.f89 5 [(1, .v 0 (.ptr (some (p1, 0)))), (4, .v 0 (.ptr (some (p4, 0)))), (5, .loc 5 0 0), (37, .v 24 (x37)), (38, .v 3 (.int .i64 n38)), (39, .v 3 (.int .i64 n39))] [(5, .whole 27 y5)] g)
def lo89 : List CuI := [⟨6, [(1, .keep), (4, .keep), (5, .keep), (37, .keep), (38, .keep), (39, .keep)], [(5, .whole 27)]⟩]
theorem w89 {x0 : Dat} {p1 : Nat} {p2 : Nat} {p3 : Nat} {p4 : Nat} {g : Glob} {Qf : OGP} (h0 : Ha TT 27 x0)
    (h : Br (intOf (fld x0 0) == 1) (∃ i o, GOk TT 107 g p1 0 (.ptr (some (i, o))) ∧ ∃ i_1, GOk TT 108 g i (o + 1) (Dat.map (some i_1)) ∧ ∃ n b, MLook g (some i_1) (.int .i64 0) (.str (strOf (fld x0 1))) (.int .i64 n) b ∧ Br (n == 0) (∃ i, GOk TT 108 g p2 0 (Dat.map (some i)) ∧ ∃ n b, MLook g (some i) (.int .i64 0) (.str (strOf (fld x0 1))) (.int .i64 n) b ∧ ∃ g', gmput g i (.str (strOf (fld x0 1))) (.int .i64 (IntKind.i64.wrap (n + 1))) = some g' ∧ ∃ i, GOk TT 108 g' p2 0 (Dat.map (some i)) ∧ ∃ n b, MLook g' (some i) (.int .i64 0) (.str (strOf (fld x0 1))) (.int .i64 n) b ∧ Br (n == 1) (∃ x, Ha TT 61 x ∧ GOk TT 61 g' p3 0 x ∧ Fits ((elO x).length + [Dat.str (strOf (fld x0 1))].length) 16 ∧ ∃ r g'_1, gapp 1 x [.str (strOf (fld x0 1))] (gto g' 1 1) = some (r, g'_1) ∧ GPut g'_1 p3 0 1 ∧ L89_6 p1 p4 (fld x0 4) (↑(elO (fld x0 4)).length : Int) 0 x0 (gu g'_1 p3 0 r) Qf) (L89_6 p1 p4 (fld x0 4) (↑(elO (fld x0 4)).length : Int) 0 x0 g' Qf)) (L89_6 p1 p4 (fld x0 4) (↑(elO (fld x0 4)).length : Int) 0 x0 g Qf)) (L89_6 p1 p4 (fld x0 4) (↑(elO (fld x0 4)).length : Int) 0 x0 g Qf)) :
    EvF TT 89 [x0, .ptr (some (p1, 0)), .ptr (some (p2, 0)), .ptr (some (p3, 0)), .ptr (some (p4, 0))] g Qf :=
  su (rk := rk) (fn := Tryz.f89) (loops := lo89) (joins := []) (n := 100000) (args := [(27, x0), (0, .ptr (some (p1, 0))), (0, .ptr (some (p2, 0))), (0, .ptr (some (p3, 0))), (0, .ptr (some (p4, 0)))]) rfl rfl rfl rfl ⟨h0, tyPtr0 rfl, tyPtr0 rfl, tyPtr0 rfl, tyPtr0 rfl, trivial⟩ (by kernel_rfl) h
theorem w89_6 {p1 : Nat} {p4 : Nat} {x37 : Dat} {n38 : Int} {n39 : Int} {y5 : Dat} {g : Glob} {Qf : OGP} 
    (h : Br (decide (n39 < n38)) (InB n39 (elO x37).length ∧ GPut (gne g [.int .i64 0, .str [], .str [], .int .i64 0, .nil, .nil, .int .i64 0]) g.boxes.length 0 7 ∧ ∃ i o, GOk TT 107 (gu (gne g [.int .i64 0, .str [], .str [], .int .i64 0, .nil, .nil, .int .i64 0]) g.boxes.length 0 (gtE (elO x37) n39)) p1 0 (.ptr (some (i, o))) ∧ EvF TT 91 [y5, .int .i64 n39] (gu (gne g [.int .i64 0, .str [], .str [], .int .i64 0, .nil, .nil, .int .i64 0]) g.boxes.length 0 (gtE (elO x37) n39)) fun out g' => Outc (fun x => GSame TT 107 p1 0 (gu (gne g [.int .i64 0, .str [], .str [], .int .i64 0, .nil, .nil, .int .i64 0]) g.boxes.length 0 (gtE (elO x37) n39)) (gu (gne g [.int .i64 0, .str [], .str [], .int .i64 0, .nil, .nil, .int .i64 0]) g.boxes.length 0 (gtE (elO x37) n39)) ∧ Qf (.panic x) g') (fun v => ∃ x, Ha TT 61 x ∧ Rt v x ∧ GSame TT 107 p1 0 (gu (gne g [.int .i64 0, .str [], .str [], .int .i64 0, .nil, .nil, .int .i64 0]) g.boxes.length 0 (gtE (elO x37) n39)) g' ∧ EvF TT 90 [.ptr (some (i, o)), x, .clo 92 [.ptr (some (p4, 0)), .ptr (some (g.boxes.length, 0))]] g' (KQ Qf fun v g' => Ret v [] ∧ L89_6 p1 p4 x37 n38 (IntKind.i64.wrap (n39 + 1)) y5 g' Qf)) out) (Qf (.val (.tuple [])) g)) :
    L89_6 p1 p4 x37 n38 n39 y5 g Qf := sxc (rk := rk) (loops := lo89) (joins := []) (n := 100000) (by kernel_rfl) h
def L40_1 (y1 : Dat) (g : Glob) (Qf : OGP) : Prop := CP TT Tryz.f40 [1] Qf (mkC TT 40 Tryz.f40 1 [(1, .loc 1 0 0)] [(1, .whole 27 y1)] g)
def L40_2 (p3 : Nat) (y1 : Dat) (g : Glob) (Qf : OGP) : Prop := CP TT Tryz.f40 [1, 1] Qf (mkC TT 40 Tryz.f40 1 [(1, .loc 1 0 0), (3, .v 0 (.ptr (some (p3, 0))))] [(1, .whole 27 y1)] g)
def L40_3 (p3 : Nat) (p4 : Nat) (y1 : Dat) (g : Glob) (Qf : OGP) : Prop := CP TT Tryz.f40 [1, 1, 1] Qf (mkC TT 40 Tryz.f40 1 [(1, .loc 1 0 0), (3, .v 0 (.ptr (some (p3, 0)))), (4, .v 0 (.ptr (some (p4, 0))))] [(1, .whole 27 y1)] g)
def L40_4 (p3 : Nat) (p4 : Nat) (p5 : Nat) (y1 : Dat) (g : Glob) (Qf : OGP) : Prop := CP TT Tryz.f40 [1, 1, 1, 1] Qf (mkC TT 40 Tryz.f40 1 [(1, .loc 1 0 0), (3, .v 0 (.ptr (some (p3, 0)))), (4, .v 0 (.ptr (some (p4, 0)))), (5, .v 0 (.ptr (some (p5, 0))))] [(1, .whole 27 y1)] g)
def L40_5 (p3 : Nat) (p4 : Nat) (p5 : Nat) (p6 : Nat) (y1 : Dat) (g : Glob) (Qf : OGP) : Prop := CP TT Tryz.f40 [1, 1, 1, 1, 1] Qf (mkC TT 40 Tryz.f40 1 [(1, .loc 1 0 0), (3, .v 0 (.ptr (some (p3, 0)))), (4, .v 0 (.ptr (some (p4, 0)))), (5, .v 0 (.ptr (some (p5, 0)))), (6, .v 0 (.ptr (some (p6, 0))))] [(1, .whole 27 y1)] g)
def L40_6 (p4 : Nat) (p6 : Nat) (y1 : Dat) (g : Glob) (Qf : OGP) : Prop := CP TT Tryz.f40 [1, 1, 1, 1, 1, 1] Qf (mkC TT 40 Tryz.f40 1 [(1, .loc 1 0 0), (4, .v 0 (.ptr (some (p4, 0)))), (6, .v 0 (.ptr (some (p6, 0))))] [(1, .whole 27 y1)] g)
def lo40 : List CuI := []
def jo40 : List CuI := [⟨1, [(1, .keep)], [(1, .whole 27)]⟩, ⟨2, [(1, .keep), (3, .keep)], [(1, .whole 27)]⟩, ⟨3, [(1, .keep), (3, .keep), (4, .keep)], [(1, .whole 27)]⟩, ⟨4, [(1, .keep), (3, .keep), (4, .keep), (5, .keep)], [(1, .whole 27)]⟩, ⟨5, [(1, .keep), (3, .keep), (4, .keep), (5, .keep), (6, .keep)], [(1, .whole 27)]⟩, ⟨6, [(1, .keep), (4, .keep), (6, .keep)], [(1, .whole 27)]⟩]
theorem w40 {x0 : Dat} {g : Glob} {Qf : OGP} (h0 : Ha TT 27 x0)
    (h : L40_1 x0 g Qf) :
    EvF TT 40 [x0] g Qf :=
  su (rk := rk) (fn := Tryz.f40) (loops := lo40) (joins := jo40) (n := 100000) (args := [(27, x0)]) rfl rfl rfl rfl ⟨h0, trivial⟩ (by kernel_rfl) h
theorem w40_1 {y1 : Dat} {g : Glob} {Qf : OGP} 
    (h : GPut (gne (gne (gm g) [Dat.nil, Dat.map (some g.boxes.length)]) [Dat.ptr none]) (gne (gm g) [Dat.nil, Dat.map (some g.boxes.length)]).boxes.length 0 1 ∧ L40_2 (gne (gm g) [Dat.nil, Dat.map (some g.boxes.length)]).boxes.length y1 (gu (gne (gne (gm g) [Dat.nil, Dat.map (some g.boxes.length)]) [Dat.ptr none]) (gne (gm g) [Dat.nil, Dat.map (some g.boxes.length)]).boxes.length 0 (Dat.ptr (some ((gm g).boxes.length, 0)))) Qf) :
    L40_1 y1 g Qf := sxc (rk := rk) (loops := lo40) (joins := jo40) (n := 100000) (by kernel_rfl) h
theorem w40_2 {p3 : Nat} {y1 : Dat} {g : Glob} {Qf : OGP} 
    (h : L40_3 p3 g.boxes.length y1 (gne g [Dat.nil]) Qf) :
    L40_2 p3 y1 g Qf := sxc (rk := rk) (loops := lo40) (joins := jo40) (n := 100000) (by kernel_rfl) h
theorem w40_3 {p3 : Nat} {p4 : Nat} {y1 : Dat} {g : Glob} {Qf : OGP} 
    (h : GPut (gne (gm g) [Dat.map none]) (gm g).boxes.length 0 1 ∧ L40_4 p3 p4 (gm g).boxes.length y1 (gu (gne (gm g) [Dat.map none]) (gm g).boxes.length 0 (Dat.map (some g.boxes.length))) Qf) :
    L40_3 p3 p4 y1 g Qf := sxc (rk := rk) (loops := lo40) (joins := jo40) (n := 100000) (by kernel_rfl) h
theorem w40_4 {p3 : Nat} {p4 : Nat} {p5 : Nat} {y1 : Dat} {g : Glob} {Qf : OGP} 
    (h : L40_5 p3 p4 p5 g.boxes.length y1 (gne g [Dat.nilFn]) Qf) :
    L40_4 p3 p4 p5 y1 g Qf := sxc (rk := rk) (loops := lo40) (joins := jo40) (n := 100000) (by kernel_rfl) h
theorem w40_5 {p3 : Nat} {p4 : Nat} {p5 : Nat} {p6 : Nat} {y1 : Dat} {g : Glob} {Qf : OGP} 
    (h : GPut g p6 0 1 ∧ L40_6 p4 p6 y1 (gu g p6 0 (Dat.clo 89 [Dat.ptr (some (p3, 0)), Dat.ptr (some (p5, 0)), Dat.ptr (some (p4, 0)), Dat.ptr (some (p6, 0))])) Qf) :
    L40_5 p3 p4 p5 p6 y1 g Qf := sxc (rk := rk) (loops := lo40) (joins := jo40) (n := 100000) (by kernel_rfl) h
theorem w40_6 {p4 : Nat} {p6 : Nat} {y1 : Dat} {g : Glob} {Qf : OGP} 
    (h : ∃ f c, GOk TT 111 g p6 0 (.clo f c) ∧ EvF TT f (y1 :: c) g (KQ Qf fun v g' => Ret v [] ∧ ∃ x, Ha TT 61 x ∧ GOk TT 61 g' p4 0 x ∧ ∀ (v : Val), Rt v x → Qf (.val v) g')) :
    L40_6 p4 p6 y1 g Qf := sxc (rk := rk) (loops := lo40) (joins := jo40) (n := 100000) (by kernel_rfl) h
def lo38 : List CuI := []
theorem w38 {x0 : Dat} {g : Glob} {Qf : OGP} (h0 : Ha TT 27 x0)
    (h : EvF TT 27 [.agg [.nil, .int .i64 (intOf (fld x0 0)), .str (strOf (fld x0 1)), .str (strOf (fld x0 2)), .int .i64 (intOf (fld x0 3)), fld x0 4, fld x0 5, .int .i64 (intOf (fld x0 6))]] g (KQ Qf fun v g' => ∃ n, v = .d (.int .i64 n) ∧ Qf (.val (.d (.bool (decide (n ≤ 1200))))) g')) :
    EvF TT 38 [x0] g Qf :=
  su (rk := rk) (fn := Tryz.f38) (loops := lo38) (joins := []) (n := 100000) (args := [(27, x0)]) rfl rfl rfl rfl ⟨h0, trivial⟩ (by kernel_rfl) h
def L12_9 (x4 : Dat) (n6 : Int) (y5 : Dat) (g : Glob) (Qf : OGP) : Prop := CP TT Tryz.f12 [1, 1, 1, 1, 1, 1, 0, 1, 0] Qf (mkC TT 12 Tryz.f12 1 [(4, .v 61 (x4)), (5, .loc 5 0 0), (6, .v 3 (.int .i64 n6))] [(5, .whole 27 y5)] g)
def lo12 : List CuI := [⟨9, [(4, .keep), (5, .keep), (6, .keep)], [(5, .whole 27)]⟩]
theorem w12 {x0 : Dat} {g : Glob} {Qf : OGP} (h0 : Ha TT 29 x0)
    (h : EvF TT 21 [x0] g (KQ Qf fun v g' => ∃ b, v = .d (.bool b) ∧ Br b (EvF TT 28 [] g' (KQ Qf fun v g' => ∃ b, v = .d (.bool b) ∧ Qf (.val (.d (.bool b))) g')) (EvF TT 38 [sub x0 1 7] g' (KQ Qf fun v g' => ∃ b, v = .d (.bool b) ∧ Br (!b) (EvF TT 28 [] g' (KQ Qf fun v g' => ∃ b, v = .d (.bool b) ∧ Qf (.val (.d (.bool b))) g')) (EvF TT 23 [x0] g' (KQ Qf fun v g' => ∃ x, Ha TT 29 x ∧ v = .d x ∧ EvF TT 29 [x] g' (KQ Qf fun v g' => ∃ x, Ha TT 49 x ∧ v = .d x ∧ EvF TT 23 [x0] g' (KQ Qf fun v g' => ∃ x_1, Ha TT 29 x_1 ∧ v = .d x_1 ∧ EvF TT 40 [sub x_1 1 7] g' (KQ Qf fun v g' => ∃ x_2, Ha TT 61 x_2 ∧ Rt v x_2 ∧ Br (intOf (fld x 0) == 0) (Br (decide (0 < (↑(elO x_2).length : Int))) (Qf (.val (.d (.bool false))) g') (EvF TT 23 [x0] g' (KQ Qf fun v g' => ∃ x, Ha TT 29 x ∧ v = .d x ∧ L12_9 x_2 0 (sub x 1 7) g' Qf))) (EvF TT 23 [x0] g' (KQ Qf fun v g' => ∃ x, Ha TT 29 x ∧ v = .d x ∧ L12_9 x_2 0 (sub x 1 7) g' Qf))))))))))) :
    EvF TT 12 [x0] g Qf :=
  su (rk := rk) (fn := Tryz.f12) (loops := lo12) (joins := []) (n := 100000) (args := [(29, x0)]) rfl rfl rfl rfl ⟨h0, trivial⟩ (by kernel_rfl) h
theorem w12_9 {x4 : Dat} {n6 : Int} {y5 : Dat} {g : Glob} {Qf : OGP} 
    (h : Br (decide (n6 < (↑(elO x4).length : Int))) (Br (decide (n6 < 50)) (InB n6 (elO x4).length ∧ L12_9 x4 (IntKind.i64.wrap (n6 + 1)) (.agg [.int .i64 3, .str (strOf (fld (gtE (elO x4) n6) 0)), .str [], .int .i64 0, .sl 7 [y5], .nil, .int .i64 0]) g Qf) (Br (decide (50 < (↑(elO x4).length : Int))) (EvF TT 28 [] g (KQ Qf fun v g' => ∃ b, v = .d (.bool b) ∧ Qf (.val (.d (.bool b))) g')) (EvF TT 40 [y5] g (KQ Qf fun v g' => ∃ x, Ha TT 61 x ∧ Rt v x ∧ Br ((↑(elO x).length : Int) == 0) (EvF TT 28 [] g' (KQ Qf fun v g' => ∃ b, v = .d (.bool b) ∧ Qf (.val (.d (.bool b))) g')) (Qf (.val (.d (.bool false))) g'))))) (Br (decide (50 < (↑(elO x4).length : Int))) (EvF TT 28 [] g (KQ Qf fun v g' => ∃ b, v = .d (.bool b) ∧ Qf (.val (.d (.bool b))) g')) (EvF TT 40 [y5] g (KQ Qf fun v g' => ∃ x, Ha TT 61 x ∧ Rt v x ∧ Br ((↑(elO x).length : Int) == 0) (EvF TT 28 [] g' (KQ Qf fun v g' => ∃ b, v = .d (.bool b) ∧ Qf (.val (.d (.bool b))) g')) (Qf (.val (.d (.bool false))) g'))))) :
    L12_9 x4 n6 y5 g Qf := sxc (rk := rk) (loops := lo12) (joins := []) (n := 100000) (by kernel_rfl) h
end Go.Proofs.YtgmapdcdmomioaaGreatDoor.Pa
namespace Go.Proofs.YtgmapdcdmomioaaGreatDoor.Pa
open Go Go.Proofs.YtgmapdcdmomioaaGreatDoor.Am
theorem mapStr_inj {l k : List Str} (h : l.map Dat.str = k.map Dat.str) : l = k := by
  have := congrArg (List.map strOf) h
  rw [List.map_map, List.map_map] at this
  have e : ∀ m : List Str, m.map (strOf ∘ Dat.str) = m := fun m => List.map_id'' (fun _ => rfl) m
  rw [e, e] at this
  exact this
theorem brT {c : Bool} {A B : Prop} (q : c = true) (h : A) : Br c A B := by subst q; exact h
theorem brF {c : Bool} {A B : Prop} (q : c = false) (h : B) : Br c A B := by subst q; exact h
theorem bcast {a b : Bool} {g : Glob} {Qf : OGP} (h : Qf (.val (.d (.bool a))) g) (e : a = b) : Qf (.val (.d (.bool b))) g := e ▸ h
theorem vars_ok : ∀ (n : Nat) {x X : Dat} {l : List Str} {b : Nat} {g : Glob} {Qf : OGP}, SizeOf.sizeOf x < n → Ha TT 127 x → Gr b g X l → b ≤ g.toks.length → (∀ s ∈ l, s.length ≤ 2 ^ 40) → l.length + szPt (aP x) ≤ 2 ^ 29 →
    (∀ X' g' v, Gr b g' X' (l ++ varsP (aP x)) → (∀ s ∈ l ++ varsP (aP x), s.length ≤ 2 ^ 40) → KeepT b g g' → Rt v X' → Qf (.val v) g') → EvF TT 160 [X, x] g Qf
  | 0, x, X, l, b, g, Qf, h, _, _, _, _, _, _ => by omega
  | n + 1, x, X, l, b, g, Qf, hsz, hx, hg, hb, hs, hn, hQ => by
    obtain ⟨k1, s1, v1, a1, p1, rfl, hs1, t1⟩ := pat_ty hx
    have ex := t1.els uP
    have exl := ex.1.1
    have hc := sO (cs := [.int .i64 k1, .str s1, .int .i64 v1, a1, .int .i64 p1]) (c := a1) (by simp)
    have e1 : varsP (aP (.agg [.int .i64 k1, .str s1, .int .i64 v1, a1, .int .i64 p1])) = (if k1 == 2 then [s1] else []) ++ vP (((elO a1).drop 0).map aP) := by simp only [aP, varsP, aA, List.drop_zero]
    have e2 : szPt (aP (.agg [.int .i64 k1, .str s1, .int .i64 v1, a1, .int .i64 p1])) = 1 + szP (((elO a1).drop 0).map aP) := by simp only [aP, szPt, aA, List.drop_zero]
    rw [e1] at hQ
    rw [e2] at hn
    have hF : l.length ≤ 2 ^ 29 := by omega
    have loop : ∀ {X : Dat} {l0 : List Str} {g0 : Glob}, Gr b g0 X l0 → b ≤ g0.toks.length → (∀ s ∈ l0, s.length ≤ 2 ^ 40) → l0.length + szP (((elO a1).drop 0).map aP) ≤ 2 ^ 29 →
        (∀ X' g' v, Gr b g' X' (l0 ++ vP (((elO a1).drop 0).map aP)) → (∀ s ∈ l0 ++ vP (((elO a1).drop 0).map aP), s.length ≤ 2 ^ 40) → KeepT b g0 g' → Rt v X' → Qf (.val v) g') → L160_4 X a1 ((elO a1).length : Int) 0 g0 Qf := by
      intro X l0 g0 hg hb hs hn hQ
      refine lU (len := (elO a1).length) (fun i => ∀ {X : Dat} {l0 : List Str} {g0 : Glob}, Gr b g0 X l0 → b ≤ g0.toks.length → (∀ s ∈ l0, s.length ≤ 2 ^ 40) → l0.length + szP (((elO a1).drop i).map aP) ≤ 2 ^ 29 →
        (∀ X' g' v, Gr b g' X' (l0 ++ vP (((elO a1).drop i).map aP)) → (∀ s ∈ l0 ++ vP (((elO a1).drop i).map aP), s.length ≤ 2 ^ 40) → KeepT b g0 g' → Rt v X' → Qf (.val v) g') → L160_4 X a1 ((elO a1).length : Int) (i : Int) g0 Qf) ?_ ?_ 0 (Nat.zero_le _) hg hb hs hn hQ
      · intro X l0 g0 hg hb hs hn hQ
        refine w160_4 ?_
        rw [Bg]
        rw [List.drop_length] at hQ
        simp only [List.map_nil, vP, List.append_nil] at hQ
        exact fun v hv => hQ X g0 v hg hs (KeepT.refl _ _) hv
      · intro i hi ih X l0 g0 hg hb hs hn hQ
        refine w160_4 ?_
        rw [Bl hi, geE hi]
        have h1 := siz hi
        rw [szt hi] at hn
        rw [varsPs_drop hi] at hQ
        refine ⟨inB hi, vars_ok n (by omega) (ex.2 _ (List.getElem_mem hi)) hg hb hs (by omega) fun X' g' v hg' hs' hk hv => ?_⟩
        have hlen := varsP_len (aP (elO a1)[i])
        refine ⟨X', hg'.ty (by rw [List.length_append]; omega) hs', hv, ?_⟩
        rw [wra (by omega)]
        refine ih hg' (Nat.le_trans hb hk.len) hs' (by rw [List.length_append]; omega) fun X'' g'' v' h1 h2 h3 h4 => ?_
        rw [List.append_assoc] at h1 h2
        exact hQ X'' g'' v' h1 h2 (hk.trans h3) h4
    refine w160 (hg.ty (by omega) hs) hx ?_
    show Br (k1 == 2) (Fits ((elO X).length + 1) 16 ∧ ∃ r g', gapp 1 X [.str s1] (gto g 1 1) = some (r, g') ∧ L160_4 r a1 ((elO a1).length : Int) 0 g' Qf) (L160_4 X a1 ((elO a1).length : Int) 0 g Qf)
    refine Bi.2 ⟨fun q => ?_, fun q => ?_⟩
    · rw [q] at hQ
      simp only [if_true] at hQ
      obtain ⟨r, g', a, h2, h3⟩ := hg.app hb s1
      refine ⟨fitS' (by rw [elsLen hg.els]; omega), r, g', a, loop h2 (Nat.le_trans hb h3.len) (fun s hs' => ?_) (by rw [List.length_append]; simp only [List.length_cons, List.length_nil]; omega) fun X' g'' v q1 q2 q3 q4 => ?_⟩
      · rcases List.mem_append.1 hs' with h | h
        · exact hs s h
        · rw [List.mem_singleton] at h; subst h; exact hs1
      · rw [List.append_assoc] at q1 q2
        exact hQ X' g'' v q1 q2 (h3.trans q3) q4
    · rw [q] at hQ
      simp only [Bool.false_eq_true, if_false, List.nil_append] at hQ
      exact loop hg hb hs (by omega) hQ
end Go.Proofs.YtgmapdcdmomioaaGreatDoor.Pa
namespace Go.Proofs.YtgmapdcdmomioaaGreatDoor.Pa
open Go Go.Proofs.YtgmapdcdmomioaaGreatDoor.Am
theorem oneBox_refl (i : Nat) (g : Glob) : Oe i g g := by
  by_cases h : i < g.boxes.length
  · exact ⟨g.boxes[i], by simp⟩
  · exact ⟨default, by rw [List.set_eq_of_length_le (by omega)]⟩
theorem gokD {g : Glob} {i o n : Nat} {cs : List GV} {x : Dat} {t : TypeId} {d : TypeDesc} (hu : TT.und t = some d) (hs : TT.size t = some n) (ha : ig d = false) (hb : g.boxes[i]? = some (.cells cs)) (hc : cs[o]? = some (.d x)) : GOk TT t g i o x := by
  refine ⟨.d x, ?_, rfl, rfl⟩
  simp only [gload, hb, lV, hu, hs, ha, Bool.false_eq_true, if_false, List.head?_map, List.head?_drop, hc]
  rfl
theorem undMap : TT.und 108 = some (.map 9 3) := by kernel_rfl
theorem sizeMap : TT.size 108 = some 1 := by kernel_rfl
def SB (g : Glob) (p mb : Nat) (D : Dat) : Prop := g.boxes[p]? = some (.cells [.d D, .d (.map (some mb))])
theorem SB.map {g : Glob} {p mb : Nat} {D : Dat} (h : SB g p mb D) : GOk TT 108 g p 1 (.map (some mb)) := gokD undMap sizeMap rfl h rfl
theorem SB.one {g g' : Glob} {p mb : Nat} {D : Dat} {F : Dat → Option Dat} (h : SB g p mb D) (hm : MI true g mb F) (ho : Oe mb g g') : SB g' p mb D := by
  have hne : p ≠ mb := fun e => by
    obtain ⟨es, c, h1, _⟩ := hm
    unfold SB at h
    rw [e, h1] at h
    cases h
  exact (ho.get hne).trans h
theorem with_ok {p mb f : Nat} {D x : Dat} {l : List Str} {cap : List Dat} {g : Glob} {c : Str → Nat} {Qf : OGP} (hx : Ha TT 61 x) (hl : elO x = l.map .str) (hc : ∀ s, c s + l.length ≤ 2 ^ 60) (h0 : SB g p mb D) (hm : MI true g mb (cntF c))
    (body : ∀ g1, Oe mb g g1 → MI true g1 mb (cntF (adL c l)) → EvF TT f cap g1 fun out g2 => Outc (fun x => Qf (.panic x) g2) (fun v => Ret v [] ∧ SB g2 p mb D ∧ MI true g2 mb (cntF (adL c l)) ∧
      ∀ g3, Oe mb g2 g3 → MI true g3 mb (cntF c) → Qf (.val (.tuple [])) g3) out) : EvF TT 90 [.ptr (some (p, 0)), x, .clo f cap] g Qf := by
  have eln := elsLen hl
  have hn : l.length ≤ 2 ^ 40 := by have := (hx.els uS).1.1; rw [eln] at this; exact this
  refine w90 hx ?_
  rw [eln]
  refine lU (len := l.length) (fun i => ∀ g1, Oe mb g g1 → MI true g1 mb (cntF (adL c (l.take i))) → L90_1 p x f cap x (l.length : Int) (i : Int) g1 Qf) ?_ ?_ 0 (Nat.zero_le _) g (oneBox_refl _ _) (by simpa [addL_nil] using hm)
  · intro g1 ho hm1
    refine w90_1 ?_
    rw [Bg]
    rw [List.take_length] at hm1
    refine (body g1 ho hm1).mono fun out g2 hp => ?_
    cases out with
    | panic y => exact hp
    | val v =>
      obtain ⟨hv, hb2, hm2, hk⟩ := hp
      refine ⟨hv, ?_⟩
      rw [eln]
      refine lU (len := l.length) (fun i => ∀ g3, Oe mb g2 g3 → MI true g3 mb (cntF (adL c (l.drop i))) → L90_7 p x (l.length : Int) (i : Int) g3 Qf) ?_ ?_ 0 (Nat.zero_le _) g2 (oneBox_refl _ _) hm2
      · intro g3 ho3 hm3
        refine w90_7 ?_
        rw [Bg]
        rw [List.drop_length, addL_nil] at hm3
        exact hk g3 ho3 hm3
      · intro i hi ih g3 ho3 hm3
        refine w90_7 ?_
        rw [Bl hi, strAt hl hi, eln]
        have hb3 := hb2.one hm2 ho3
        rw [List.drop_eq_getElem_cons hi] at hm3
        have hle : adL c (l[i] :: l.drop (i + 1)) l[i] ≤ 2 ^ 60 := addL_le c _ (fun s => by have := hc s; simp only [List.length_cons, List.length_drop]; omega) _
        have hpos : 1 ≤ adL c (l[i] :: l.drop (i + 1)) l[i] := by
          have : (l[i] :: l.drop (i + 1)).count l[i] = (l.drop (i + 1)).count l[i] + 1 := List.count_cons_self
          unfold adL
          omega
        have h1 := hm3.mlook (z := .int .i64 0) (strKey l[i])
        rw [cntF_get] at h1
        obtain ⟨g4, a, b, d⟩ := hm3.put (strKey l[i]) (.int .i64 (IntKind.i64.wrap ((adL c (l[i] :: l.drop (i + 1)) l[i] : Nat) - 1 : Int)))
        have hw : IntKind.i64.wrap ((adL c (l[i] :: l.drop (i + 1)) l[i] : Nat) - 1 : Int) = ((adL c (l[i] :: l.drop (i + 1)) l[i] - 1 : Nat) : Int) := by
          rw [wrp (by omega) (by omega)]
          omega
        have hb4 := hb3.one hm3 b
        have h2 := d.mlook (z := .int .i64 0) (strKey l[i])
        rw [uF] at h2
        refine ⟨inB hi, mb, hb3.map, _, _, h1, g4, a, mb, hb4.map, _, _, h2, ?_⟩
        rw [hw] at d ⊢
        refine Bi.2 ⟨fun q => ?_, fun q => ?_⟩
        · obtain ⟨g5, a5, b5, d5⟩ := d.del (strKey l[i])
          refine ⟨mb, hb4.map, g5, a5, ?_⟩
          rw [wra (by omega)]
          refine ih g5 ((ho3.trans b).trans b5) ?_
          have hz : adL c (l[i] :: l.drop (i + 1)) l[i] - 1 = 0 := by
            have : ((adL c (l[i] :: l.drop (i + 1)) l[i] - 1 : Nat) : Int) = 0 := by simpa using q
            omega
          rw [updF_updF, updF_del, ← hz, setC_dec] at d5
          exact d5
        · rw [wra (by omega)]
          refine ih g4 (ho3.trans b) ?_
          have hz : adL c (l[i] :: l.drop (i + 1)) l[i] - 1 ≠ 0 := by
            intro e
            rw [e] at q
            simp at q
          rw [updF_put _ _ hz, setC_dec] at d
          exact d
  · intro i hi ih g1 ho hm1
    refine w90_1 ?_
    rw [Bl hi, strAt hl hi, eln]
    have hb1 := h0.one hm ho
    have hle : adL c (l.take i) l[i] ≤ 2 ^ 60 := addL_le c _ (fun s => by have := hc s; rw [List.length_take]; omega) _
    obtain ⟨h1, g2, a, b, d⟩ := map_inc hm1 l[i] hle
    refine ⟨inB hi, mb, hb1.map, _, _, h1, g2, a, ?_⟩
    rw [wra (by omega)]
    refine ih g2 (ho.trans b) ?_
    rw [addL_app] at d
    rw [List.take_succ_eq_append_getElem hi]
    exact d
theorem nat0 (i : Nat) : ((i : Int) == 0) = (i == 0) := by
  rw [Bool.eq_iff_iff]; simp
theorem nat1 (i : Nat) : ((i : Int) == 1) = (i == 1) := by
  rw [Bool.eq_iff_iff]; simp; omega
theorem natP (i : Nat) : decide ((0 : Int) < (i : Int)) = decide (0 < i) := by simp
theorem natL (i n : Nat) : decide ((i : Int) ≤ (n : Int)) = decide (i ≤ n) := by simp
theorem absPt_at {b1 : Dat} {i : Nat} (h1 : 0 < i) (h2 : i ≤ (elO b1).length) : (((elO b1).map aP)[i - 1]?).getD default = aP ((elO b1)[i - 1]'(by omega)) := by
  rw [List.getElem?_map, List.getElem?_eq_getElem (by omega)]
  rfl
theorem patAt {b1 : Dat} {i : Nat} (h1 : 0 < i) (h2 : i ≤ (elO b1).length) (h3 : i ≤ 2 ^ 40) : InB (IntKind.i64.wrap ((i : Int) - 1)) (elO b1).length ∧ gtE (elO b1) (IntKind.i64.wrap ((i : Int) - 1)) = (elO b1)[i - 1]'(by omega) := by
  rw [wrp (by omega) (by omega), show (i : Int) - 1 = ((i - 1 : Nat) : Int) from by omega]
  exact ⟨inB (by omega), geE (by omega)⟩
theorem binds_ok {k1 v1 p1 : Int} {s1 r1 : Str} {a1 b1 : Dat} {i : Nat} {g : Glob} {Qf : OGP} (hx : Ha TT 27 (.agg [.int .i64 k1, .str s1, .str r1, .int .i64 v1, a1, b1, .int .i64 p1])) (hi : i ≤ 2 ^ 40) (hz : szP ((elO b1).map aP) ≤ 2 ^ 28)
    (hQ : ∀ v z g', Rt v z → Ha TT 61 z → elO z = (bn k1 s1 r1 ((elO b1).map aP) i).map .str → KeepT g.toks.length g g' → Qf (.val v) g') : EvF TT 91 [.agg [.int .i64 k1, .str s1, .str r1, .int .i64 v1, a1, b1, .int .i64 p1], .int .i64 i] g Qf := by
  obtain ⟨k', s', r', n', a', b', p', e, hs, hr, ta, tb⟩ := exr hx
  cases e
  have L1 : bn k1 s1 r1 ((elO b1).map aP) i = [s1] → Qf (.val (.uq 1 [.str s1])) g := fun e => hQ _ (.sl 1 ([s1].map .str)) g rfl (strs_sl (by simp) (by simpa using hs)) (by rw [e]; rfl) (KeepT.refl _ _)
  have L2 : bn k1 s1 r1 ((elO b1).map aP) i = [s1, r1] → Qf (.val (.uq 1 [.str s1, .str r1])) g := fun e => hQ _ (.sl 1 ([s1, r1].map .str)) g rfl (strs_sl (by simp) (by simpa using ⟨hs, hr⟩)) (by rw [e]; rfl) (KeepT.refl _ _)
  have L0 : bn k1 s1 r1 ((elO b1).map aP) i = [] → ∀ v, Rt v .nil → Qf (.val v) g := fun e v hv => hQ v .nil g hv strs_nil (by rw [e]; rfl) (KeepT.refl _ _)
  have L3 : (∀ x, bn k1 s1 r1 ((elO b1).map aP) i = varsP ((((elO b1).map aP)[i - 1]?).getD default) ∨ x) → 0 < i → i ≤ (elO b1).length → InB (IntKind.i64.wrap ((i : Int) - 1)) (elO b1).length ∧
      EvF TT 160 [Dat.nil, gtE (elO b1) (IntKind.i64.wrap ((i : Int) - 1))] g (KQ Qf fun v g' => ∃ x, Ha TT 61 x ∧ Rt v x ∧ ∀ (v : Val), Rt v x → Qf (Out.val v) g') := fun e h1 h2 => by
    have e := (e False).resolve_right id
    rw [absPt_at h1 h2] at e
    obtain ⟨q1, q2⟩ := patAt h1 h2 hi
    refine ⟨q1, ?_⟩
    rw [q2]
    have hm : szPt (aP ((elO b1)[i - 1]'(by omega))) ≤ 2 ^ 28 := Nat.le_trans (szPts_mem (i := i - 1) (by rw [List.getElem?_map, List.getElem?_eq_getElem (by omega)]; rfl)) hz
    refine vars_ok _ (Nat.lt_succ_self _) ((tb.els uP).2 _ (List.getElem_mem _)) (Gr.nil g.toks.length g) (Nat.le_refl _) (fun s h => by cases h) (by simp only [List.length_nil]; omega) fun X' g' v h3 h4 h5 h6 => ?_
    rw [List.nil_append] at h3 h4
    have hlen := varsP_len (aP ((elO b1)[i - 1]'(by omega)))
    have hty := h3.ty (by omega) h4
    exact ⟨X', hty, h6, fun v' hv' => hQ v' X' g' hv' hty (by rw [e]; exact h3.els) h5⟩
  have key : ∀ b5, b5 = (k1 == 3 && i == 0 || k1 == 5 && i == 1 || k1 == 6 && i == 1) → L91_4 (i : Int) b5 (.agg [.int .i64 k1, .str s1, .str r1, .int .i64 v1, a1, b1, .int .i64 p1]) g Qf := by
    intro b5 h5
    refine w91_4 ?_
    rw [nat0, natP]
    rw [show ((fld (.agg [.int .i64 k1, .str s1, .str r1, .int .i64 v1, a1, b1, .int .i64 p1]) 5)) = b1 from rfl, natL]
    show Br b5 (Qf (.val (.uq 1 [.str s1])) g) (Br (k1 == 6) (Br (i == 0) (Qf (.val (.uq 1 [.str s1, .str r1])) g) (Br (k1 == 7) (Br (decide (0 < i)) (Br (decide (i ≤ (elO b1).length)) _ _) _) _)) (Br (k1 == 7) (Br (decide (0 < i)) (Br (decide (i ≤ (elO b1).length)) _ _) _) _))
    have hlen : ((elO b1).map aP).length = (elO b1).length := by simp
    refine Bi.2 ⟨fun q1 => L1 ?_, fun q1 => ?_⟩
    · unfold bn; rw [← h5, q1]; rfl
    · have B : bn k1 s1 r1 ((elO b1).map aP) i = if k1 == 6 && i == 0 then [s1, r1] else if k1 == 7 && (decide (0 < i) && decide (i ≤ (elO b1).length)) then varsP ((((elO b1).map aP)[i - 1]?).getD default) else [] := by
        unfold bn; rw [← h5, q1, hlen]; rfl
      have seven : (k1 == 6 && i == 0) = false → Br (k1 == 7) (Br (decide (0 < i)) (Br (decide (i ≤ (elO b1).length)) (InB (IntKind.i64.wrap ((i : Int) - 1)) (elO b1).length ∧
      EvF TT 160 [Dat.nil, gtE (elO b1) (IntKind.i64.wrap ((i : Int) - 1))] g (KQ Qf fun v g' => ∃ x, Ha TT 61 x ∧ Rt v x ∧ ∀ (v : Val), Rt v x → Qf (Out.val v) g')) (∀ (v : Val), Rt v Dat.nil → Qf (Out.val v) g)) (∀ (v : Val), Rt v Dat.nil → Qf (Out.val v) g)) (∀ (v : Val), Rt v Dat.nil → Qf (Out.val v) g) := by
        intro h6
        rw [h6] at B
        refine Bi.2 ⟨fun q2 => Bi.2 ⟨fun q3 => Bi.2 ⟨fun q4 => L3 (fun x => .inl ?_) (of_decide_eq_true q3) (of_decide_eq_true q4), fun q4 => L0 ?_⟩, fun q3 => L0 ?_⟩, fun q2 => L0 ?_⟩
        · rw [B, q2, q3, q4]; rfl
        · rw [B, q2, q3, q4]; rfl
        · rw [B, q2, q3]; rfl
        · rw [B, q2]; rfl
      refine Bi.2 ⟨fun q2 => Bi.2 ⟨fun q3 => L2 ?_, fun q3 => seven (by rw [q2, q3]; rfl)⟩, fun q2 => seven (by rw [q2]; rfl)⟩
      rw [B, q2, q3]; rfl
  refine w91 hx ?_
  rw [nat0, nat1]
  show Br (k1 == 3) (Br (i == 0) _ (Br (k1 == 5) (Br (i == 1) _ (Br (k1 == 6) _ _)) (Br (k1 == 6) _ _))) (Br (k1 == 5) (Br (i == 1) _ (Br (k1 == 6) _ _)) (Br (k1 == 6) _ _))
  repeat' (first | refine Bi.2 ⟨fun q => ?_, fun q => ?_⟩)
  all_goals (refine key _ ?_; simp_all)
end Go.Proofs.YtgmapdcdmomioaaGreatDoor.Pa
namespace Go.Proofs.YtgmapdcdmomioaaGreatDoor.Pa
open Go Go.Proofs.YtgmapdcdmomioaaGreatDoor.Am
mutual
theorem freeE_len : ∀ (e : Ex') (bd out : List Str), (fE e bd out).length ≤ out.length + szx e
  | .mk k s r n a b p, bd, out => by
    have := freeEs_len (bn k s r b) a 0 bd (if k == 1 && (!bd.contains s && !out.contains s) then out ++ [s] else out)
    simp only [fE, szx]
    refine Nat.le_trans this ?_
    split
    · simp only [List.length_append, List.length_cons, List.length_nil]; omega
    · omega
theorem freeEs_len : ∀ (bi : Nat → List Str) (l : List Ex') (i : Nat) (bd out : List Str), (fre bi l i bd out).length ≤ out.length + szE l
  | bi, [], i, bd, out => Nat.le_refl _
  | bi, x :: xs, i, bd, out => by
    have h1 := freeE_len x (bd ++ bi i) out
    have h2 := freeEs_len bi xs (i + 1) bd (fE x (bd ++ bi i) out)
    simp only [fre, szE]
    omega
end
theorem szExs_mem {l : List Ex'} {i : Nat} {x : Ex'} (h : l[i]? = some x) : szx x ≤ szE l := by
  induction l generalizing i with
  | nil => simp at h
  | cons y l ih =>
    cases i with
    | zero => simp at h; subst h; simp only [szE]; omega
    | succ i => have := ih (i := i) (by simpa using h); simp only [szE]; omega
end Go.Proofs.YtgmapdcdmomioaaGreatDoor.Pa
namespace Go.Proofs.YtgmapdcdmomioaaGreatDoor.Pa
open Go Go.Proofs.YtgmapdcdmomioaaGreatDoor.Am
theorem gnew_len (g : Glob) (ds : List Dat) : (gne g ds).boxes.length = g.boxes.length + 1 := by simp [gne]
theorem gnw (g : Glob) (ds : List Dat) : (gne g ds).boxes[g.boxes.length]? = some (.cells (ds.map .d)) := by simp [gne]
theorem gnew_old {g : Glob} (ds : List Dat) {j : Nat} (h : j < g.boxes.length) : (gne g ds).boxes[j]? = g.boxes[j]? := by simp only [gne]; rw [List.getElem?_append_left h]
theorem gmnew_len (g : Glob) : (gm g).boxes.length = g.boxes.length + 1 := by simp [gm]
theorem gmnew_old {g : Glob} {j : Nat} (h : j < g.boxes.length) : (gm g).boxes[j]? = g.boxes[j]? := by simp only [gm]; rw [List.getElem?_append_left h]
theorem gput_one {g : Glob} {i : Nat} {c : GV} {x : Dat} (hb : g.boxes[i]? = some (.cells [c])) (h1 : x.one = true) : GPut g i 0 1 ∧ gu g i 0 x = { g with boxes := g.boxes.set i (.cells [.d x]) } := by
  refine ⟨⟨_, hb, Nat.le_refl _⟩, ?_⟩
  have hc : x.cells = [x] := by cases x <;> first | rfl | cases h1
  unfold gu
  rw [hb, hc]
  rfl
theorem putAll_same {β : Type} : ∀ (vs cs pre : List β), cs.length = vs.length → puA (pre ++ cs) pre.length vs = pre ++ vs := fun vs cs pre h => putAll_all pre h
theorem gput_all {g : Glob} {i n : Nat} {cs : List GV} {ds : List Dat} (hb : g.boxes[i]? = some (.cells cs)) (hn : cs.length = n) (hd : ds.length = n) : GPut g i 0 n ∧ gu g i 0 (.agg ds) = { g with boxes := g.boxes.set i (.cells (ds.map .d)) } := by
  refine ⟨⟨_, hb, by omega⟩, ?_⟩
  unfold gu
  rw [hb]
  simp only [Dat.cells]
  have := putAll_same (ds.map GV.d) cs [] (by rw [List.length_map, hd, hn])
  simp only [List.nil_append, List.length_nil] at this
  rw [this]
theorem gput_new {g : Glob} {z ds : List Dat} {n : Nat} (hz : z.length = n) (hd : ds.length = n) : GPut (gne g z) g.boxes.length 0 n ∧ gu (gne g z) g.boxes.length 0 (.agg ds) = gne g ds := by
  obtain ⟨a, b⟩ := gput_all (ds := ds) (gnw g z) (by rw [List.length_map, hz]) hd
  refine ⟨a, b.trans ?_⟩
  simp [gne]
theorem gok_agg {g : Glob} {i n : Nat} {ds : List Dat} {t : TypeId} {d : TypeDesc} (hu : TT.und t = some d) (hs : TT.size t = some n) (ha : ig d = true) (hb : g.boxes[i]? = some (.cells (ds.map .d))) (hn : ds.length = n) : GOk TT t g i 0 (.agg ds) := by
  refine ⟨.d (.agg ds), ?_, rfl, rfl⟩
  have hm : opA ((ds.map GV.d).map fun x => Val.isD x.v) = some ds := by
    rw [List.map_map]
    have : ((fun x => Val.isD x.v) ∘ GV.d) = (some : Dat → Option Dat) := rfl
    rw [this]
    clear hb hn
    induction ds with
    | nil => rfl
    | cons x ds ih => simp only [List.map_cons, opA, ih]
  simp only [gload, hb, lV, hu, hs, ha, if_true, List.drop_zero, List.length_map]
  rw [if_pos (by omega), List.take_of_length_le (by simp; omega)]
  unfold mkAgg
  rw [List.map_map]
  have e : (Val.isD ∘ GV.v) = fun x : GV => Val.isD x.v := rfl
  rw [e, hm]
structure Kp (bx : List Nat) (b : Nat) (g g' : Glob) : Prop where
  len : g.boxes.length ≤ g'.boxes.length
  box : ∀ j, j < g.boxes.length → j ∉ bx → g'.boxes[j]? = g.boxes[j]?
  tlen : g.toks.length ≤ g'.toks.length
  tok : ∀ j, j < b → g'.toks[j]? = g.toks[j]?
theorem Kp.refl (bx : List Nat) (b : Nat) (g : Glob) : Kp bx b g g := ⟨Nat.le_refl _, fun _ _ _ => rfl, Nat.le_refl _, fun _ _ => rfl⟩
theorem Kp.trans {bx : List Nat} {b : Nat} {g g' g'' : Glob} (h : Kp bx b g g') (k : Kp bx b g' g'') : Kp bx b g g'' :=
  ⟨Nat.le_trans h.len k.len, fun j hj hx => (k.box j (Nat.lt_of_lt_of_le hj h.len) hx).trans (h.box j hj hx), Nat.le_trans h.tlen k.tlen, fun j hj => (k.tok j hj).trans (h.tok j hj)⟩
theorem Kp.le {bx bx' : List Nat} {b b' : Nat} {g g' : Glob} (h : Kp bx b g g') (hx : ∀ j ∈ bx, j ∈ bx') (hb : b' ≤ b) : Kp bx' b' g g' :=
  ⟨h.len, fun j hj hn => h.box j hj fun q => hn (hx j q), h.tlen, fun j hj => h.tok j (Nat.lt_of_lt_of_le hj hb)⟩
theorem KeepT.kp {b : Nat} {g g' : Glob} (h : KeepT b g g') : Kp [] b g g' := ⟨by rw [h.boxes]; exact Nat.le_refl _, fun j _ _ => by rw [h.boxes], h.len, h.old⟩
theorem boxKp {i : Nat} {g g' : Glob} (h : Oe i g g') (b : Nat) : Kp [i] b g g' := ⟨by rw [h.len]; exact Nat.le_refl _, fun j _ hn => h.get (by simpa using hn), by rw [h.toks]; exact Nat.le_refl _, fun j _ => by rw [h.toks]⟩
theorem kp_gnew (g : Glob) (ds : List Dat) (b : Nat) : Kp [] b g (gne g ds) := ⟨by rw [gnew_len]; omega, fun j hj _ => gnew_old ds hj, Nat.le_refl _, fun _ _ => rfl⟩
theorem Gr.kp {b : Nat} {g g' : Glob} {x : Dat} {l : List Str} {bx : List Nat} (h : Gr b g x l) (hk : Kp bx g.toks.length g g') : Gr b g' x l := by
  rcases h with h | ⟨k, h1, h2, h3⟩
  · exact .inl h
  · exact .inr ⟨k, h1, h2, by rw [hk.tok k (List.getElem?_eq_some_iff.1 h3).1]; exact h3⟩
structure FEnv where
  ps : Nat
  p0 : Nat
  mb : Nat
  pm : Nat
  mm : Nat
  po : Nat
  pl : Nat
  D : Dat
  b : Nat
def FEnv.caps (V : FEnv) : List Dat := [.ptr (some (V.ps, 0)), .ptr (some (V.pm, 0)), .ptr (some (V.po, 0)), .ptr (some (V.pl, 0))]
structure FEnv.Ok (V : FEnv) : Prop where
  nd : [V.ps, V.p0, V.mb, V.pm, V.mm, V.po, V.pl].Pairwise (· ≠ ·)
def FEnv.bx (V : FEnv) : List Nat := [V.mb, V.mm, V.po]
structure FFix (V : FEnv) (g : Glob) : Prop where
  s : g.boxes[V.ps]? = some (.cells [.d (.ptr (some (V.p0, 0)))])
  z : SB g V.p0 V.mb V.D
  m : g.boxes[V.pm]? = some (.cells [.d (.map (some V.mm))])
  l : g.boxes[V.pl]? = some (.cells [.d (.clo 89 V.caps)])
structure FSt (V : FEnv) (g : Glob) (c : Str → Nat) (out : List Str) (K : Nat) : Prop where
  fix : FFix V g
  bnd : MI true g V.mb (cntF c)
  met : ∃ m, MI true g V.mm (cntF m) ∧ (∀ s, 0 < m s ↔ s ∈ out) ∧ ∀ s, m s ≤ K
  res : ∃ X, g.boxes[V.po]? = some (.cells [.d X]) ∧ Gr V.b g X out
  tb : V.b ≤ g.toks.length
  strs : ∀ s ∈ out, s.length ≤ 2 ^ 40
  len : out.length ≤ K
theorem FFix.kp {V : FEnv} {g g' : Glob} (hV : V.Ok) (h : FFix V g) (hk : Kp V.bx V.b g g') : FFix V g' := by
  have hn := hV.nd
  simp only [List.pairwise_cons, List.mem_cons, List.not_mem_nil, or_false, forall_eq_or_imp, forall_eq] at hn
  have key : ∀ j, (∃ bx, g.boxes[j]? = some bx) → j ∉ V.bx → g'.boxes[j]? = g.boxes[j]? := fun j ⟨bx, hj⟩ hx => hk.box j (List.getElem?_eq_some_iff.1 hj).1 hx
  have nm : ∀ {j}, j ≠ V.mb → j ≠ V.mm → j ≠ V.po → j ∉ V.bx := fun h1 h2 h3 => by simp [FEnv.bx, h1, h2, h3]
  refine ⟨?_, ?_, ?_, ?_⟩
  · rw [key _ ⟨_, h.s⟩ (nm (by grind) (by grind) (by grind))]; exact h.s
  · exact (key _ ⟨_, h.z⟩ (nm (by grind) (by grind) (by grind))).trans h.z
  · rw [key _ ⟨_, h.m⟩ (nm (by grind) (by grind) (by grind))]; exact h.m
  · rw [key _ ⟨_, h.l⟩ (nm (by grind) (by grind) (by grind))]; exact h.l
theorem FEnv.Ok.ne {V : FEnv} (hV : V.Ok) : V.mb ≠ V.mm ∧ V.mb ≠ V.po ∧ V.mm ≠ V.po ∧ V.pm ≠ V.mb ∧ V.pm ≠ V.mm ∧ V.pm ≠ V.po ∧ V.ps ≠ V.mb ∧ V.ps ≠ V.mm ∧ V.ps ≠ V.po := by
  have hn := hV.nd
  simp only [List.pairwise_cons, List.mem_cons, List.not_mem_nil, or_false, forall_eq_or_imp, forall_eq] at hn
  grind
theorem FSt.kp {V : FEnv} {g g' : Glob} {c : Str → Nat} {out : List Str} {K : Nat} (hV : V.Ok) (h : FSt V g c out K) (hk : Kp [] g.toks.length g g') : FSt V g' c out K := by
  have key : ∀ j, (∃ bx, g.boxes[j]? = some bx) → g'.boxes[j]? = g.boxes[j]? := fun j ⟨bx, hj⟩ => hk.box j (List.getElem?_eq_some_iff.1 hj).1 (by simp)
  have km : ∀ {j F}, MI true g j F → MI true g' j F := fun hm => hm.other (key _ (let ⟨es, c, h1, _⟩ := hm; ⟨_, h1⟩)) (j := 0)
  obtain ⟨m, m1, m2, m3⟩ := h.met
  obtain ⟨X, x1, x2⟩ := h.res
  exact ⟨h.fix.kp hV (hk.le (fun j hj => by cases hj) h.tb), km h.bnd, ⟨m, km m1, m2, m3⟩, ⟨X, (key _ ⟨_, x1⟩).trans x1, x2.kp hk⟩, Nat.le_trans h.tb hk.tlen, h.strs, h.len⟩
theorem FSt.bound {V : FEnv} {g g' : Glob} {c c' : Str → Nat} {out : List Str} {K : Nat} (hV : V.Ok) (h : FSt V g c out K) (ho : Oe V.mb g g') (hm : MI true g' V.mb (cntF c')) : FSt V g' c' out K := by
  obtain ⟨n1, n2, n3, _⟩ := hV.ne
  obtain ⟨m, m1, m2, m3⟩ := h.met
  obtain ⟨X, x1, x2⟩ := h.res
  exact ⟨h.fix.kp hV ((boxKp ho V.b).le (fun j hj => by simp at hj; simp [FEnv.bx, hj]) (Nat.le_refl _)), hm, ⟨m, m1.other (ho.get (fun e => n1 e.symm)) (j := 0), m2, m3⟩, ⟨X, (ho.get (fun e => n2 e.symm)).trans x1, x2.toks ho.toks⟩, by rw [ho.toks]; exact h.tb, h.strs, h.len⟩
theorem FSt.more {V : FEnv} {g : Glob} {c : Str → Nat} {out : List Str} {K K' : Nat} (h : FSt V g c out K) (hK : K ≤ K') : FSt V g c out K' := by
  obtain ⟨m, m1, m2, m3⟩ := h.met
  exact ⟨h.fix, h.bnd, ⟨m, m1, m2, fun s => Nat.le_trans (m3 s) hK⟩, h.res, h.tb, h.strs, Nat.le_trans h.len hK⟩
theorem undSp : TT.und 107 = some (.pointer 110) := by kernel_rfl
theorem sizeSp : TT.size 107 = some 1 := by kernel_rfl
theorem isF_und {t : TypeId} (h : isF (TT.und t) = true) : ∃ d, TT.und t = some d ∧ ig d = false := by
  cases hd : TT.und t with
  | none => rw [hd] at h; cases h
  | some d => rw [hd] at h; cases d <;> first | exact ⟨_, rfl, rfl⟩ | cases h
theorem isAgg_und {t : TypeId} (h : isAgg? (TT.und t) = true) : ∃ d, TT.und t = some d ∧ ig d = true := by
  cases hd : TT.und t with
  | none => rw [hd] at h; cases h
  | some d => rw [hd] at h; cases d <;> first | exact ⟨_, rfl, rfl⟩ | cases h
theorem undFe : ∃ d, TT.und 111 = some d ∧ ig d = false := isF_und (by kernel_rfl)
theorem sizeFe : TT.size 111 = some 1 := by kernel_rfl
theorem siS : TT.size 61 = some 1 := by kernel_rfl
theorem undExpr : ∃ d, TT.und 27 = some d ∧ ig d = true := isAgg_und (by kernel_rfl)
theorem gloadD {g : Glob} {i o n : Nat} {cs : List GV} {x : Dat} {t : TypeId} {d : TypeDesc} (hu : TT.und t = some d) (hs : TT.size t = some n) (ha : ig d = false) (hb : g.boxes[i]? = some (.cells cs)) (hc : cs[o]? = some (.d x)) : gload TT t g i o = some (.d x) := by
  simp only [gload, hb, lV, hu, hs, ha, Bool.false_eq_true, if_false, List.head?_map, List.head?_drop, hc]
  rfl
theorem FFix.ptr {V : FEnv} {g : Glob} (h : FFix V g) : GOk TT 107 g V.ps 0 (.ptr (some (V.p0, 0))) := gokD undSp sizeSp rfl h.s rfl
theorem FFix.same {V : FEnv} {g g' : Glob} (h : FFix V g) (h' : FFix V g') : GSame TT 107 V.ps 0 g g' := ⟨_, _, gloadD undSp sizeSp rfl h.s rfl, gloadD undSp sizeSp rfl h'.s rfl, by simp [Val.same, Dat.beq]⟩
theorem FFix.mmap {V : FEnv} {g : Glob} (h : FFix V g) : GOk TT 108 g V.pm 0 (.map (some V.mm)) := gokD undMap sizeMap rfl h.m rfl
def cB (bd : List Str) : Str → Nat := fun s => bd.count s
theorem cB_app (bd l : List Str) : adL (cB bd) l = cB (bd ++ l) := by funext s; simp [adL, cB, List.count_append]
theorem cB_le (bd : List Str) (s : Str) : cB bd s ≤ bd.length := List.count_le_length
theorem cB_zero (bd : List Str) (s : Str) : (((cB bd s : Nat) : Int) == 0) = !bd.contains s := by
  rw [Bool.eq_iff_iff]
  simp only [beq_iff_eq, Bool.not_eq_true', cB]
  constructor
  · intro h
    have h : bd.count s = 0 := by omega
    rw [← Bool.not_eq_true, List.contains_iff_mem]
    exact List.count_eq_zero.1 h
  · intro h
    have : s ∉ bd := by rw [← List.contains_iff_mem, h]; simp
    rw [List.count_eq_zero.2 this]
    rfl
theorem look_ok : ∀ (n : Nat) {V : FEnv} {x : Dat} {g : Glob} {bd out : List Str} {K : Nat} {Qf : OGP}, V.Ok → SizeOf.sizeOf x < n → Ha TT 27 x → FSt V g (cB bd) out K →
    bd.length + 2 * szx (ax x) ≤ 2 ^ 28 → K + szx (ax x) ≤ 2 ^ 28 →
    (∀ g', FSt V g' (cB bd) (fE (ax x) bd out) (K + szx (ax x)) → Kp V.bx V.b g g' → Qf (.val (.tuple [])) g') → EvF TT 89 (x :: V.caps) g Qf
  | 0, V, x, g, bd, out, K, Qf, hV, hsz, _, _, _, _, _ => by omega
  | n + 1, V, x, g, bd, out, K, Qf, hV, hsz, hx, hst, hn, hm, hQ => by
    obtain ⟨k1, s1, r1, v1, a1, b1, p1, rfl, hs1, hr1, t1, u1⟩ := exr hx
    have ex := t1.els unE
    have exl := ex.1.1
    have eu := u1.els uP
    have hc := sO (cs := [.int .i64 k1, .str s1, .str r1, .int .i64 v1, a1, b1, .int .i64 p1]) (c := a1) (by simp)
    have e1 : ∀ bd out, fE (ax (.agg [.int .i64 k1, .str s1, .str r1, .int .i64 v1, a1, b1, .int .i64 p1])) bd out = fre (bn k1 s1 r1 ((elO b1).map aP)) (((elO a1).drop 0).map ax) 0 bd (if k1 == 1 && (!bd.contains s1 && !out.contains s1) then out ++ [s1] else out) := fun bd out => by
      simp only [ax, fE, aA, abE, List.drop_zero]
    have e2 : szx (ax (.agg [.int .i64 k1, .str s1, .str r1, .int .i64 v1, a1, b1, .int .i64 p1])) = 1 + szP ((elO b1).map aP) + szE (((elO a1).drop 0).map ax) := by simp only [ax, szx, aA, abE, List.drop_zero]
    rw [e1, e2] at hQ
    rw [e2] at hn hm
    obtain ⟨w1, w2, w3, w4, w5, w6, w7, w8, w9⟩ := hV.ne
    have loop : ∀ (i : Nat), i ≤ (elO a1).length → ∀ {out : List Str} {g0 : Glob} {K : Nat}, FSt V g0 (cB bd) out K → K + szE (((elO a1).drop i).map ax) ≤ 2 ^ 28 →
        (∀ g', FSt V g' (cB bd) (fre (bn k1 s1 r1 ((elO b1).map aP)) (((elO a1).drop i).map ax) i bd out) (K + szE (((elO a1).drop i).map ax)) → Kp V.bx V.b g0 g' → Qf (.val (.tuple [])) g') →
        L89_6 V.ps V.pl a1 ((elO a1).length : Int) (i : Int) (.agg [.int .i64 k1, .str s1, .str r1, .int .i64 v1, a1, b1, .int .i64 p1]) g0 Qf := by
      refine lU (len := (elO a1).length) _ ?_ ?_
      · intro out g0 K hst hn hQ
        refine w89_6 ?_
        rw [Bg]
        rw [List.drop_length] at hQ
        exact hQ g0 hst (Kp.refl _ _ _)
      · intro i hi ih out g0 K hst hn' hQ
        rw [List.drop_eq_getElem_cons hi] at hn'
        rw [freeEs_drop _ hi] at hQ
        have hsplit : szE (((elO a1).drop i).map ax) = szx (ax (elO a1)[i]) + szE (((elO a1).drop (i + 1)).map ax) := szExs_drop hi
        rw [hsplit] at hQ
        simp only [List.map_cons, szE] at hn'
        have hmem : szx (ax (elO a1)[i]) ≤ szE (((elO a1).drop 0).map ax) := szExs_mem (i := i) (by rw [List.drop_zero, List.getElem?_map, List.getElem?_eq_getElem hi]; rfl)
        have hbl := bindsOf_len k1 s1 r1 ((elO b1).map aP) i
        have h1 := siz hi
        have htx := ex.2 _ (List.getElem_mem hi)
        refine w89_6 ?_
        rw [Bl hi, geE hi]
        refine ⟨inB hi, ?_⟩
        obtain ⟨ds, hds, hd7⟩ : ∃ ds, (elO a1)[i] = .agg ds ∧ ds.length = 7 := by
          obtain ⟨k', s', r', n', a', b', p', e, _⟩ := exr htx
          exact ⟨_, e, rfl⟩
        rw [hds] at h1 hQ hmem htx hn' ⊢
        obtain ⟨g1a, g1b⟩ := gput_new (g := g0) (z := [Dat.int IntKind.i64 0, Dat.str [], Dat.str [], Dat.int IntKind.i64 0, Dat.nil, Dat.nil, Dat.int IntKind.i64 0]) (ds := ds) rfl hd7
        rw [g1b]
        have kg1 := kp_gnew g0 ds g0.toks.length
        have st1 := hst.kp hV kg1
        refine ⟨g1a, V.p0, 0, st1.fix.ptr, binds_ok hx (by omega) (by omega) fun v z g2 hv hz ez hk2 => ?_⟩
        have st2 := st1.kp hV (hk2.kp.le (fun j hj => hj) (Nat.le_refl _))
        refine ⟨z, hz, hv, st1.fix.same st2.fix, ?_⟩
        have hbc : ∀ s, cB bd s + (bn k1 s1 r1 ((elO b1).map aP) i).length ≤ 2 ^ 60 := fun s => by
          have := cB_le bd s
          omega
        refine with_ok hz ez hbc st2.fix.z st2.bnd fun g3 ho3 hm3 => ?_
        rw [cB_app] at hm3 ⊢
        have st3 := st2.bound hV ho3 hm3
        have hbx : g3.boxes[g0.boxes.length]? = some (.cells (ds.map .d)) := by
          have hlt : V.mb < g0.boxes.length := hst.bnd.lt
          rw [ho3.get (by omega), hk2.boxes]
          exact gnw g0 ds
        obtain ⟨fd, hfe, hfa⟩ := undFe
        obtain ⟨ed, hfs, hea⟩ := undExpr
        refine w92 ⟨_, _, gokD hfe sizeFe hfa st3.fix.l rfl, .agg ds, htx, gok_agg hfs szExpr hea hbx hd7, ?_⟩
        refine look_ok n hV (by omega) htx st3 (by rw [List.length_append]; omega) (by omega) fun g4 st4 k4 => ⟨trivial, ?_⟩
        refine ⟨trivial, st4.fix.z, st4.bnd, fun g5 ho5 hm5 => ⟨trivial, ?_⟩⟩
        have st5 := st4.bound hV ho5 hm5
        rw [wra (by omega)]
        refine ih st5 (by omega) fun g6 st6 k6 => hQ g6 ?_ ?_
        · rw [Nat.add_assoc] at st6
          exact st6
        · have sub1 : ∀ j, j ∈ [V.mb] → j ∈ V.bx := fun j hj => by simp at hj; simp [FEnv.bx, hj]
          have a1 : Kp V.bx V.b g0 (gne g0 ds) := kg1.le (fun j hj => by cases hj) hst.tb
          have a2 : Kp V.bx V.b (gne g0 ds) g2 := hk2.kp.le (fun j hj => by cases hj) st1.tb
          have a3 : Kp V.bx V.b g2 g3 := (boxKp ho3 V.b).le sub1 (Nat.le_refl _)
          have a5 : Kp V.bx V.b g4 g5 := (boxKp ho5 V.b).le sub1 (Nat.le_refl _)
          exact ((((a1.trans a2).trans a3).trans k4).trans a5).trans k6
    have fin : ∀ {g1 : Glob} {o : List Str}, FSt V g1 (cB bd) o (K + 1) → Kp V.bx V.b g g1 → o = (if k1 == 1 && (!bd.contains s1 && !out.contains s1) then out ++ [s1] else out) → L89_6 V.ps V.pl a1 ((elO a1).length : Int) 0 (.agg [.int .i64 k1, .str s1, .str r1, .int .i64 v1, a1, b1, .int .i64 p1]) g1 Qf := by
      intro g1 o st1 kk eo
      refine loop 0 (Nat.zero_le _) st1 (by omega) fun g' st' k' => hQ g' ?_ (kk.trans k')
      rw [← eo]
      exact st'.more (by omega)
    refine w89 hx ?_
    show Br (k1 == 1) _ _
    refine Bi.2 ⟨fun q => ?_, fun q => fin (hst.more (by omega)) (Kp.refl _ _ _) (by rw [q]; rfl)⟩
    have hl1 := hst.bnd.mlook (z := .int .i64 0) (strKey s1)
    rw [cntF_get] at hl1
    refine ⟨V.p0, 0, hst.fix.ptr, V.mb, hst.fix.z.map, _, _, hl1, ?_⟩
    rw [cB_zero]
    refine Bi.2 ⟨fun q2 => ?_, fun q2 => fin (hst.more (by omega)) (Kp.refl _ _ _) (by rw [q, q2]; rfl)⟩
    obtain ⟨m, m1, m2, m3⟩ := hst.met
    have hmK := m3 s1
    obtain ⟨hl2, g1, h3, ho1, hm1⟩ := map_inc m1 s1 (by omega)
    obtain ⟨X, x1, x2⟩ := hst.res
    have hl4 := hm1.mlook (z := .int .i64 0) (strKey s1)
    rw [cntF_get] at hl4
    have kp1 : Kp V.bx V.b g g1 := (boxKp ho1 V.b).le (fun j hj => by simp at hj; simp [FEnv.bx, hj]) (Nat.le_refl _)
    have fix1 := hst.fix.kp hV kp1
    have hm2 : ∀ s, adL m [s1] s = m s + (if s = s1 then 1 else 0) := fun s => by
      unfold adL
      rw [List.count_cons, List.count_nil]
      by_cases hs : s = s1
      · subst hs; simp
      · have : (s1 == s) = false := by simpa using fun e => hs e.symm
        simp [hs, this]
    have x1' : g1.boxes[V.po]? = some (.cells [.d X]) := (ho1.get (fun e => w3 e.symm)).trans x1
    have bnd1 : MI true g1 V.mb (cntF (cB bd)) := hst.bnd.other (ho1.get w1) (j := 0)
    refine ⟨V.mm, hst.fix.mmap, _, _, hl2, g1, h3, V.mm, fix1.mmap, _, _, hl4, ?_⟩
    have hcnt : (((adL m [s1] s1 : Nat) : Int) == 1) = !out.contains s1 := by
      rw [hm2, if_pos rfl, Bool.eq_iff_iff]
      simp only [beq_iff_eq, Bool.not_eq_true']
      constructor
      · intro h
        have h0 : ¬ 0 < m s1 := by omega
        rw [m2] at h0
        rw [← Bool.not_eq_true, List.contains_iff_mem]
        exact h0
      · intro h
        have h0 : s1 ∉ out := by rw [← List.contains_iff_mem, h]; simp
        rw [← m2] at h0
        omega
    rw [hcnt]
    refine Bi.2 ⟨fun q3 => ?_, fun q3 => ?_⟩
    · have gr1 := x2.toks (g' := g1) ho1.toks
      obtain ⟨r, g2, r1', r2, r3⟩ := gr1.app (by rw [ho1.toks]; exact hst.tb) s1
      have x2' : g2.boxes[V.po]? = some (.cells [.d X]) := by rw [r3.boxes]; exact x1'
      have hr : r.one = true := by rcases r2 with ⟨rfl, h⟩ | ⟨kk, rfl, _⟩ <;> rfl
      obtain ⟨p1', p2⟩ := gput_one x2' hr
      have hlen := hst.len
      refine ⟨X, x2.ty (by omega) hst.strs, gokD uS siS rfl x1' rfl, fitS' (by rw [elsLen x2.els]; simp only [List.length_cons, List.length_nil]; omega), r, g2, r1', p1', ?_⟩
      rw [p2]
      have kp2 : Kp V.bx V.b g g2 := kp1.trans (r3.kp.le (fun j hj => by cases hj) (Nat.le_refl _))
      have ho3 : Oe V.po g2 { g2 with boxes := g2.boxes.set V.po (.cells [.d r]) } := ⟨_, rfl⟩
      have kp3 : Kp V.bx V.b g { g2 with boxes := g2.boxes.set V.po (.cells [.d r]) } := kp2.trans ((boxKp ho3 V.b).le (fun j hj => by simp at hj; simp [FEnv.bx, hj]) (Nat.le_refl _))
      have mk : ∀ {j F}, MI true g1 j F → j ≠ V.po → MI true { g2 with boxes := g2.boxes.set V.po (.cells [.d r]) } j F := fun hm hj => hm.other ((ho3.get hj).trans (by rw [r3.boxes])) (j := 0)
      refine fin (o := out ++ [s1]) ⟨hst.fix.kp hV kp3, mk bnd1 w2, ⟨_, mk hm1 w3, fun s => ?_, fun s => ?_⟩, ⟨r, ?_, r2.toks rfl⟩, ?_, fun s hs => ?_, ?_⟩ kp3 (by rw [q, q2, q3]; rfl)
      · rw [hm2, List.mem_append, List.mem_singleton, ← m2]
        split
        · rename_i e; subst e; simp
        · rename_i e; simp [e]
      · rw [hm2]; have := m3 s; split <;> omega
      · simp only
        rw [List.getElem?_set_self (List.getElem?_eq_some_iff.1 x2').1]
      · exact Nat.le_trans (by rw [ho1.toks]; exact hst.tb) r3.len
      · rcases List.mem_append.1 hs with h | h
        · exact hst.strs s h
        · rw [List.mem_singleton] at h; subst h; exact hs1
      · rw [List.length_append]; simp only [List.length_cons, List.length_nil]; omega
    · have hin : s1 ∈ out := by
        have : out.contains s1 = true := by simpa using q3
        exact List.contains_iff_mem.1 this
      refine fin ⟨fix1, bnd1, ⟨_, hm1, fun s => ?_, fun s => ?_⟩, ⟨X, x1', x2.toks ho1.toks⟩, by rw [ho1.toks]; exact hst.tb, hst.strs, Nat.le_succ_of_le hst.len⟩ kp1 (by rw [q, q2, q3]; rfl)
      · rw [hm2, ← m2]
        split
        · rename_i e; subst e; have := (m2 s).2 hin; omega
        · omega
      · rw [hm2]; have := m3 s; split <;> omega
end Go.Proofs.YtgmapdcdmomioaaGreatDoor.Pa
