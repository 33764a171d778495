/- Scope: names that are bound, counted in a numbered map; slices of names that grow. What functions of the program do, printed by wip/tools/sx/sx.py. Scope: what the functions on names do. Scope: what stands where names are bound; the document's free names. Scope: the document's free names. Scope: the program's free names. Scope: the law ScopeFree. Scope: the law ScopeParts. -/
import Derived.Test.YtgmapdcdmomioaaGreatDoorRF
import Derived.Test.YtgmapdcdmomioaaGreatDoorQH
import Derived.Test.YtgmapdcdmomioaaGreatDoorRE
set_option linter.all false
set_option autoImplicit false
set_option maxRecDepth 100000
namespace Go.Proofs.YtgmapdcdmomioaaGreatDoor.Pa
open Go Go.Proofs.YtgmapdcdmomioaaGreatDoor.Am
def cntF (c : Str → Nat) : Dat → Option Dat
  | .str s => if c s = 0 then none else some (.int .i64 (c s))
  | _ => none
theorem cntF_get (c : Str → Nat) (s : Str) : (cntF c (.str s)).getD (.int .i64 0) = .int .i64 (c s) := by
  unfold cntF
  simp only
  split
  · rename_i h; rw [h]; rfl
  · rfl
def setC (c : Str → Nat) (s : Str) (n : Nat) : Str → Nat := fun t => if t = s then n else c t
def addL (c : Str → Nat) (l : List Str) : Str → Nat := fun s => c s + l.count s
theorem updF_put (c : Str → Nat) (s : Str) {n : Nat} (h : n ≠ 0) : updF (cntF c) (.str s) (some (.int .i64 n)) = cntF (setC c s n) := by
  funext k
  by_cases hk : k = .str s
  · subst hk
    rw [updF_same]
    simp [cntF, setC, h]
  · rw [updF_ne _ _ hk]
    cases k with
    | str t =>
      have : t ≠ s := fun e => hk (by rw [e])
      simp [cntF, setC, this]
    | _ => rfl
theorem updF_del (c : Str → Nat) (s : Str) : updF (cntF c) (.str s) none = cntF (setC c s 0) := by
  funext k
  by_cases hk : k = .str s
  · subst hk
    rw [updF_same]
    simp [cntF, setC]
  · rw [updF_ne _ _ hk]
    cases k with
    | str t =>
      have : t ≠ s := fun e => hk (by rw [e])
      simp [cntF, setC, this]
    | _ => rfl
theorem updF_updF (F : Dat → Option Dat) (k : Dat) (a b : Option Dat) : updF (updF F k a) k b = updF F k b := by
  funext k'
  by_cases hk : k' = k
  · subst hk; rw [updF_same, updF_same]
  · rw [updF_ne _ _ hk, updF_ne _ _ hk, updF_ne _ _ hk]
theorem addL_nil (c : Str → Nat) : addL c [] = c := by funext s; simp [addL]
theorem addL_app (c : Str → Nat) (l l' : List Str) : addL (addL c l) l' = addL c (l ++ l') := by funext s; simp [addL, List.count_append, Nat.add_assoc]
theorem setC_inc (c : Str → Nat) (s : Str) : setC c s (c s + 1) = addL c [s] := by
  funext t
  unfold setC addL
  by_cases h : t = s
  · subst h; simp
  · have : (s == t) = false := by simpa using fun e => h e.symm
    simp [h, List.count_cons, this]
theorem setC_dec (c : Str → Nat) (s : Str) (l : List Str) : setC (addL c (s :: l)) s (addL c (s :: l) s - 1) = addL c l := by
  funext t
  unfold setC addL
  by_cases h : t = s
  · subst h; simp
  · have : (s == t) = false := by simpa using fun e => h e.symm
    simp [h, List.count_cons, this]
theorem addL_le (c : Str → Nat) (l : List Str) {n : Nat} (h : ∀ s, c s + l.length ≤ n) (s : Str) : addL c l s ≤ n := by
  have := h s
  have h2 := List.count_le_length (a := s) (l := l)
  unfold addL
  omega
theorem strKey (s : Str) : KeyIs true (.str s) = true := rfl
theorem map_inc {g : Glob} {i : Nat} {c : Str → Nat} (h : MapIs true g i (cntF c)) (s : Str) (hc : c s ≤ 2 ^ 60) :
    MLook g (some i) (.int .i64 0) (.str s) (.int .i64 (c s)) ((cntF c (.str s)).isSome) ∧ ∃ g', gmput g i (.str s) (.int .i64 (IntKind.i64.wrap ((c s : Int) + 1))) = some g' ∧ OneBox i g g' ∧ MapIs true g' i (cntF (addL c [s])) := by
  have h1 := h.mlook (z := .int .i64 0) (strKey s)
  rw [cntF_get] at h1
  refine ⟨h1, ?_⟩
  obtain ⟨g', a, b, d⟩ := h.put (strKey s) (.int .i64 (IntKind.i64.wrap ((c s : Int) + 1)))
  refine ⟨g', a, b, ?_⟩
  rw [wrap_nat (by omega), updF_put _ _ (by omega), setC_inc] at d
  exact d
def Gr (b : Nat) (g : Glob) (x : Dat) (l : List Str) : Prop := (x = .nil ∧ l = []) ∨ ∃ k, x = .gsl k 1 (l.map .str) ∧ b ≤ k ∧ g.toks[k]? = some (1, l.length)
structure KeepT (b : Nat) (g g' : Glob) : Prop where
  boxes : g'.boxes = g.boxes
  len : g.toks.length ≤ g'.toks.length
  old : ∀ j, j < b → g'.toks[j]? = g.toks[j]?
theorem KeepT.refl (b : Nat) (g : Glob) : KeepT b g g := ⟨rfl, Nat.le_refl _, fun _ _ => rfl⟩
theorem KeepT.trans {b : Nat} {g g' g'' : Glob} (h : KeepT b g g') (k : KeepT b g' g'') : KeepT b g g'' := ⟨k.boxes.trans h.boxes, Nat.le_trans h.len k.len, fun j hj => (k.old j hj).trans (h.old j hj)⟩
theorem Gr.els {b : Nat} {g : Glob} {x : Dat} {l : List Str} (h : Gr b g x l) : elsOf x = l.map .str := by
  rcases h with ⟨rfl, rfl⟩ | ⟨k, rfl, _⟩ <;> rfl
theorem Gr.nil (b : Nat) (g : Glob) : Gr b g .nil [] := .inl ⟨rfl, rfl⟩
theorem Gr.toks {b : Nat} {g g' : Glob} {x : Dat} {l : List Str} (h : Gr b g x l) (hk : g'.toks = g.toks) : Gr b g' x l := by
  rcases h with h | ⟨k, h1, h2, h3⟩
  · exact .inl h
  · exact .inr ⟨k, h1, h2, by rw [hk]; exact h3⟩
theorem Gr.app {b : Nat} {g : Glob} {x : Dat} {l : List Str} (h : Gr b g x l) (hb : b ≤ g.toks.length) (s : Str) :
    ∃ r g', gapp 1 x [.str s] (gtok g 1 1) = some (r, g') ∧ Gr b g' r (l ++ [s]) ∧ KeepT b g g' := by
  rcases h with ⟨rfl, rfl⟩ | ⟨k, rfl, h2, h3⟩
  · refine ⟨_, _, rfl, .inr ⟨(gtok g 1 1).toks.length, rfl, ?_, ?_⟩, rfl, ?_, fun j hj => ?_⟩
    · simp only [gtok, List.length_append]; omega
    · simp [gtok]
    · simp only [gtok, List.length_append]; omega
    · simp only [gtok]
      rw [List.getElem?_append_left (by simp; omega), List.getElem?_append_left (by omega)]
  · have hk := (List.getElem?_eq_some_iff.1 h3).1
    have h4 : (gtok g 1 1).toks[k]? = some (1, (l.map Dat.str).length) := by
      simp only [gtok, List.getElem?_append_left hk, List.length_map]
      exact h3
    have hk' : k < (gtok g 1 1).toks.length := (List.getElem?_eq_some_iff.1 h4).1
    refine ⟨.gsl k 1 (l.map .str ++ [.str s]), { gtok g 1 1 with toks := (gtok g 1 1).toks.set k (1, (l.map Dat.str).length + 1) }, ?_, .inr ⟨k, by rw [List.map_append]; rfl, h2, ?_⟩, rfl, ?_, fun j hj => ?_⟩
    · simp only [gapp, h4]
      simp
    · simp only [List.getElem?_set_self hk', List.length_append, List.length_map, List.length_cons, List.length_nil]
    · simp only [gtok, List.length_set, List.length_append]; omega
    · simp only [gtok]
      rw [List.getElem?_set_ne (by omega), List.getElem?_append_left (by omega)]
theorem fitS {n : Nat} (h : n ≤ 2 ^ 30) : SlFit TT 9 n := ⟨by omega, fun b' hb' => by
  rw [byStr] at hb'
  cases hb'
  omega⟩
theorem fitS' {n : Nat} (h : n ≤ 2 ^ 30) : Fits n 16 := ⟨by omega, by omega⟩
theorem strs_gsl {k : Nat} {l : List Str} (hl : l.length ≤ 2 ^ 30) (hs : ∀ s ∈ l, s.length ≤ 2 ^ 40) : HasTy TT 61 (.gsl k 1 (l.map .str)) :=
  .gsl _ _ _ _ _ undStrs szStr (by rw [List.length_map]; exact fitS hl) fun x hx => by
    obtain ⟨s, hs', rfl⟩ := List.mem_map.1 hx
    exact ty_str (hs s hs')
theorem strs_sl {l : List Str} (hl : l.length ≤ 2 ^ 30) (hs : ∀ s ∈ l, s.length ≤ 2 ^ 40) : HasTy TT 61 (.sl 1 (l.map .str)) :=
  .sl _ _ _ _ undStrs szStr (by rw [List.length_map]; exact fitS hl) fun x hx => by
    obtain ⟨s, hs', rfl⟩ := List.mem_map.1 hx
    exact ty_str (hs s hs')
theorem strs_nil : HasTy TT 61 .nil := .nil _ (by rw [undStrs]; rfl)
theorem Gr.ty {b : Nat} {g : Glob} {x : Dat} {l : List Str} (h : Gr b g x l) (hl : l.length ≤ 2 ^ 30) (hs : ∀ s ∈ l, s.length ≤ 2 ^ 40) : HasTy TT 61 x := by
  rcases h with ⟨rfl, rfl⟩ | ⟨k, rfl, _⟩
  · exact strs_nil
  · exact strs_gsl hl hs
theorem strs_inv {x : Dat} (h : HasTy TT 61 x) : ∃ l : List Str, elsOf x = l.map .str ∧ (∀ s ∈ l, s.length ≤ 2 ^ 40) ∧ l.length ≤ 2 ^ 40 := by
  obtain ⟨h1, h2⟩ := h.els undStrs
  refine ⟨(elsOf x).map strOf, ?_, fun s hs => ?_, by rw [List.length_map]; exact h1.1⟩
  · have key : ∀ l : List Dat, (∀ y ∈ l, HasTy TT 9 y) → l = (l.map strOf).map .str := by
      intro l
      induction l with
      | nil => intro _; rfl
      | cons y l ih =>
        intro h
        obtain ⟨s, rfl, _⟩ := str_ty (h y List.mem_cons_self)
        simp only [List.map_cons]
        rw [← ih fun z hz => h z (List.mem_cons_of_mem _ hz)]
        rfl
    exact key _ h2
  · obtain ⟨y, hy, rfl⟩ := List.mem_map.1 hs
    obtain ⟨s, rfl, hl⟩ := str_ty (h2 y hy)
    exact hl
theorem strAt {x : Dat} {l : List Str} (h : elsOf x = l.map .str) {i : Nat} (hi : i < l.length) : strOf (fld (getE (elsOf x) (i : Int)) 0) = l[i] := by
  rw [h, getE_nat (by rw [List.length_map]; exact hi), List.getElem_map]
  rfl
theorem elsLen {x : Dat} {l : List Str} (h : elsOf x = l.map .str) : (elsOf x).length = l.length := by rw [h, List.length_map]
mutual
def varsP : Pt → List Str
  | .mk k s _ a _ => (if k == 2 then [s] else []) ++ varsPs a
def varsPs : List Pt → List Str
  | [] => []
  | x :: xs => varsP x ++ varsPs xs
end
def bindsOf (k : Int) (s r : Str) (b : List Pt) (i : Nat) : List Str :=
  if k == 3 && i == 0 || k == 5 && i == 1 || k == 6 && i == 1 then [s]
  else if k == 6 && i == 0 then [s, r]
  else if k == 7 && (decide (0 < i) && decide (i ≤ b.length)) then varsP ((b[i - 1]?).getD default)
  else []
mutual
def freeE : Ex' → List Str → List Str → List Str
  | .mk k s r _ a b _, bd, out => freeEs (bindsOf k s r b) a 0 bd (if k == 1 && (!bd.contains s && !out.contains s) then out ++ [s] else out)
def freeEs (bi : Nat → List Str) : List Ex' → Nat → List Str → List Str → List Str
  | [], _, _, out => out
  | x :: xs, i, bd, out => freeEs bi xs (i + 1) bd (freeE x (bd ++ bi i) out)
end
mutual
theorem varsP_len : ∀ x : Pt, (varsP x).length ≤ szPt x
  | .mk k s n a p => by
    have := varsPs_len a
    simp only [varsP, szPt, List.length_append]
    split <;> simp <;> omega
theorem varsPs_len : ∀ l : List Pt, (varsPs l).length ≤ szPts l
  | [] => Nat.le_refl _
  | x :: xs => by
    have h1 := varsP_len x
    have h2 := varsPs_len xs
    simp only [varsPs, szPts, List.length_append]
    omega
end
theorem szPts_mem {l : List Pt} {i : Nat} {x : Pt} (h : l[i]? = some x) : szPt x ≤ szPts l := by
  induction l generalizing i with
  | nil => simp at h
  | cons y l ih =>
    cases i with
    | zero => simp at h; subst h; simp only [szPts]; omega
    | succ i => have := ih (i := i) (by simpa using h); simp only [szPts]; omega
theorem bindsOf_len (k : Int) (s r : Str) (b : List Pt) (i : Nat) : (bindsOf k s r b i).length ≤ 2 + szPts b := by
  unfold bindsOf
  split
  · simp only [List.length_cons, List.length_nil]; omega
  · split
    · simp only [List.length_cons, List.length_nil]; omega
    · split
      · cases h : b[i - 1]? with
        | none => simp only [Option.getD_none]; exact Nat.le_trans (varsP_len _) (by show szPt (.mk 0 [] 0 [] 0) ≤ _; simp only [szPt, szPts]; omega)
        | some x => simp only [Option.getD_some]; exact Nat.le_trans (varsP_len _) (Nat.le_trans (szPts_mem h) (by omega))
      · simp
theorem varsPs_drop {xs : List Dat} {i : Nat} (hi : i < xs.length) : varsPs ((xs.drop i).map absPt) = varsP (absPt xs[i]) ++ varsPs ((xs.drop (i + 1)).map absPt) := by
  rw [List.drop_eq_getElem_cons hi]; rfl
theorem freeEs_drop (bi : Nat → List Str) {xs : List Dat} {i : Nat} (hi : i < xs.length) (bd out : List Str) : freeEs bi ((xs.drop i).map absEx) i bd out = freeEs bi ((xs.drop (i + 1)).map absEx) (i + 1) bd (freeE (absEx xs[i]) (bd ++ bi i) out) := by
  rw [List.drop_eq_getElem_cons hi]; rfl
end Go.Proofs.YtgmapdcdmomioaaGreatDoor.Pa
namespace Go.Proofs.YtgmapdcdmomioaaGreatDoor.Pa
open Go Go.Proofs.YtgmapdcdmomioaaGreatDoor.Am
def L160_4 (x0 : Dat) (x16 : Dat) (n17 : Int) (n18 : Int) (g : Glob) (Qf : Out → Glob → Prop) : Prop := CutP TT Tryz.f160 [1, 1, 0, 1, 0] Qf (mkC TT 160 Tryz.f160 2 [(0, .v 61 (x0)), (16, .v 25 (x16)), (17, .v 3 (.int .i64 n17)), (18, .v 3 (.int .i64 n18))] [] g)
def lo160 : List CutI := [⟨4, [(0, .keep), (16, .keep), (17, .keep), (18, .keep)], []⟩]
theorem w160 {x0 : Dat} {x1 : Dat} {g : Glob} {Qf : Out → Glob → Prop} (h0 : HasTy TT 61 x0) (h1 : HasTy TT 127 x1)
    (h : Br (intOf (fld x1 0) == 2) (Fits ((elsOf x0).length + [Dat.str (strOf (fld x1 1))].length) 16 ∧ ∃ r g', gapp 1 x0 [.str (strOf (fld x1 1))] (gtok g 1 1) = some (r, g') ∧ L160_4 r (fld x1 3) (↑(elsOf (fld x1 3)).length : Int) 0 g' Qf) (L160_4 x0 (fld x1 3) (↑(elsOf (fld x1 3)).length : Int) 0 g Qf)) :
    EvF TT 160 [x0, x1] g Qf :=
  sx_fun (rk := rk) (fn := Tryz.f160) (loops := lo160) (joins := []) (n := 100000) (args := [(61, x0), (127, x1)]) rfl rfl rfl rfl ⟨h0, h1, trivial⟩ (by kernel_rfl) h
theorem w160_4 {x0 : Dat} {x16 : Dat} {n17 : Int} {n18 : Int} {g : Glob} {Qf : Out → Glob → Prop} 
    (h : Br (decide (n18 < n17)) (InB n18 (elsOf x16).length ∧ EvF TT 160 [x0, getE (elsOf x16) n18] g fun out g' => Outc (fun x => Qf (.panic x) g') (fun v => ∃ x, HasTy TT 61 x ∧ RetV v x ∧ L160_4 x x16 n17 (IntKind.i64.wrap (n18 + 1)) g' Qf) out) (∀ (v : Val), RetV v x0 → Qf (.val v) g)) :
    L160_4 x0 x16 n17 n18 g Qf := sx_cut (rk := rk) (loops := lo160) (joins := []) (n := 100000) (by kernel_rfl) h
def L91_4 (n1 : Int) (b5 : Bool) (y2 : Dat) (g : Glob) (Qf : Out → Glob → Prop) : Prop := CutP TT Tryz.f91 [1, 0, 0, 1] Qf (mkC TT 91 Tryz.f91 2 [(1, .v 3 (.int .i64 n1)), (2, .loc 2 0 0), (5, .v 4 (.bool b5))] [(2, .whole 27 y2)] g)
def lo91 : List CutI := []
def jo91 : List CutI := [⟨4, [(1, .keep), (2, .keep), (5, .keep)], [(2, .whole 27)]⟩]
theorem w91 {x0 : Dat} {n1 : Int} {g : Glob} {Qf : Out → Glob → Prop} (h0 : HasTy TT 27 x0)
    (h : Br (intOf (fld x0 0) == 3) (Br (n1 == 0) (L91_4 n1 (n1 == 0) x0 g Qf) (Br (intOf (fld x0 0) == 5) (Br (n1 == 1) (L91_4 n1 (n1 == 1) x0 g Qf) (Br (intOf (fld x0 0) == 6) (L91_4 n1 (n1 == 1) x0 g Qf) (L91_4 n1 false x0 g Qf))) (Br (intOf (fld x0 0) == 6) (L91_4 n1 (n1 == 1) x0 g Qf) (L91_4 n1 false x0 g Qf)))) (Br (intOf (fld x0 0) == 5) (Br (n1 == 1) (L91_4 n1 (n1 == 1) x0 g Qf) (Br (intOf (fld x0 0) == 6) (L91_4 n1 (n1 == 1) x0 g Qf) (L91_4 n1 false x0 g Qf))) (Br (intOf (fld x0 0) == 6) (L91_4 n1 (n1 == 1) x0 g Qf) (L91_4 n1 false x0 g Qf)))) :
    EvF TT 91 [x0, .int .i64 n1] g Qf :=
  sx_fun (rk := rk) (fn := Tryz.f91) (loops := lo91) (joins := jo91) (n := 100000) (args := [(27, x0), (3, .int .i64 n1)]) rfl rfl rfl rfl ⟨h0, tyInt rfl, trivial⟩ (by kernel_rfl) h
theorem w91_4 {n1 : Int} {b5 : Bool} {y2 : Dat} {g : Glob} {Qf : Out → Glob → Prop} 
    (h : Br b5 (Qf (.val (.uq 1 [.str (strOf (fld y2 1))])) g) (Br (intOf (fld y2 0) == 6) (Br (n1 == 0) (Qf (.val (.uq 1 [.str (strOf (fld y2 1)), .str (strOf (fld y2 2))])) g) (Br (intOf (fld y2 0) == 7) (Br (decide (0 < n1)) (Br (decide (n1 ≤ (↑(elsOf (fld y2 5)).length : Int))) (InB (IntKind.i64.wrap (n1 - 1)) (elsOf (fld y2 5)).length ∧ EvF TT 160 [.nil, getE (elsOf (fld y2 5)) (IntKind.i64.wrap (n1 - 1))] g fun out g' => Outc (fun x => Qf (.panic x) g') (fun v => ∃ x, HasTy TT 61 x ∧ RetV v x ∧ ∀ (v : Val), RetV v x → Qf (.val v) g') out) (∀ (v : Val), RetV v .nil → Qf (.val v) g)) (∀ (v : Val), RetV v .nil → Qf (.val v) g)) (∀ (v : Val), RetV v .nil → Qf (.val v) g))) (Br (intOf (fld y2 0) == 7) (Br (decide (0 < n1)) (Br (decide (n1 ≤ (↑(elsOf (fld y2 5)).length : Int))) (InB (IntKind.i64.wrap (n1 - 1)) (elsOf (fld y2 5)).length ∧ EvF TT 160 [.nil, getE (elsOf (fld y2 5)) (IntKind.i64.wrap (n1 - 1))] g fun out g' => Outc (fun x => Qf (.panic x) g') (fun v => ∃ x, HasTy TT 61 x ∧ RetV v x ∧ ∀ (v : Val), RetV v x → Qf (.val v) g') out) (∀ (v : Val), RetV v .nil → Qf (.val v) g)) (∀ (v : Val), RetV v .nil → Qf (.val v) g)) (∀ (v : Val), RetV v .nil → Qf (.val v) g)))) :
    L91_4 n1 b5 y2 g Qf := sx_cut (rk := rk) (loops := lo91) (joins := jo91) (n := 100000) (by kernel_rfl) h
def L90_1 (p0 : Nat) (x1 : Dat) (f2 : FuncId) (c2 : List Dat) (x10 : Dat) (n11 : Int) (n12 : Int) (g : Glob) (Qf : Out → Glob → Prop) : Prop := CutP TT Tryz.f90 [0, 1, 0] Qf (mkC TT 90 Tryz.f90 3 [(0, .v 107 (.ptr (some (p0, 0)))), (1, .v 61 (x1)), (2, .v 1 (.clo f2 c2)), (10, .v 61 (x10)), (11, .v 3 (.int .i64 n11)), (12, .v 3 (.int .i64 n12))] [] g)
def L90_7 (p0 : Nat) (x26 : Dat) (n27 : Int) (n28 : Int) (g : Glob) (Qf : Out → Glob → Prop) : Prop := CutP TT Tryz.f90 [1, 1, 1, 0] Qf (mkC TT 90 Tryz.f90 3 [(0, .v 107 (.ptr (some (p0, 0)))), (26, .v 61 (x26)), (27, .v 3 (.int .i64 n27)), (28, .v 3 (.int .i64 n28))] [] g)
def lo90 : List CutI := [⟨1, [(0, .keep), (1, .keep), (2, .keep), (10, .keep), (11, .keep), (12, .keep)], []⟩, ⟨7, [(0, .keep), (26, .keep), (27, .keep), (28, .keep)], []⟩]
theorem w90 {p0 : Nat} {x1 : Dat} {f2 : FuncId} {c2 : List Dat} {g : Glob} {Qf : Out → Glob → Prop} (h1 : HasTy TT 61 x1)
    (h : L90_1 p0 x1 f2 c2 x1 (↑(elsOf x1).length : Int) 0 g Qf) :
    EvF TT 90 [.ptr (some (p0, 0)), x1, .clo f2 c2] g Qf :=
  sx_fun (rk := rk) (fn := Tryz.f90) (loops := lo90) (joins := []) (n := 100000) (args := [(107, .ptr (some (p0, 0))), (61, x1), (1, .clo f2 c2)]) rfl rfl rfl rfl ⟨tyPtr rfl, h1, tyClo rfl, trivial⟩ (by kernel_rfl) h
theorem w90_1 {p0 : Nat} {x1 : Dat} {f2 : FuncId} {c2 : List Dat} {x10 : Dat} {n11 : Int} {n12 : Int} {g : Glob} {Qf : Out → Glob → Prop} 
    (h : Br (decide (n12 < n11)) (InB n12 (elsOf x10).length ∧ ∃ i, GOk TT 108 g p0 1 (Dat.map (some i)) ∧ ∃ n b, MLook g (some i) (.int .i64 0) (.str (strOf (fld (getE (elsOf x10) n12) 0))) (.int .i64 n) b ∧ ∃ g', gmput g i (.str (strOf (fld (getE (elsOf x10) n12) 0))) (.int .i64 (IntKind.i64.wrap (n + 1))) = some g' ∧ L90_1 p0 x1 f2 c2 x10 n11 (IntKind.i64.wrap (n12 + 1)) g' Qf) (EvF TT f2 c2 g fun out g' => Outc (fun x => Qf (.panic x) g') (fun v => RetT v [] ∧ L90_7 p0 x1 (↑(elsOf x1).length : Int) 0 g' Qf) out)) :
    L90_1 p0 x1 f2 c2 x10 n11 n12 g Qf := sx_cut (rk := rk) (loops := lo90) (joins := []) (n := 100000) (by kernel_rfl) h
theorem w90_7 {p0 : Nat} {x26 : Dat} {n27 : Int} {n28 : Int} {g : Glob} {Qf : Out → Glob → Prop} 
    (h : Br (decide (n28 < n27)) (InB n28 (elsOf x26).length ∧ ∃ i, GOk TT 108 g p0 1 (Dat.map (some i)) ∧ ∃ n b, MLook g (some i) (.int .i64 0) (.str (strOf (fld (getE (elsOf x26) n28) 0))) (.int .i64 n) b ∧ ∃ g', gmput g i (.str (strOf (fld (getE (elsOf x26) n28) 0))) (.int .i64 (IntKind.i64.wrap (n - 1))) = some g' ∧ ∃ i, GOk TT 108 g' p0 1 (Dat.map (some i)) ∧ ∃ n b, MLook g' (some i) (.int .i64 0) (.str (strOf (fld (getE (elsOf x26) n28) 0))) (.int .i64 n) b ∧ Br (n == 0) (∃ i, GOk TT 108 g' p0 1 (Dat.map (some i)) ∧ ∃ g'_1, gmdel g' i (.str (strOf (fld (getE (elsOf x26) n28) 0))) = some g'_1 ∧ L90_7 p0 x26 n27 (IntKind.i64.wrap (n28 + 1)) g'_1 Qf) (L90_7 p0 x26 n27 (IntKind.i64.wrap (n28 + 1)) g' Qf)) (Qf (.val (.tuple [])) g)) :
    L90_7 p0 x26 n27 n28 g Qf := sx_cut (rk := rk) (loops := lo90) (joins := []) (n := 100000) (by kernel_rfl) h
def lo92 : List CutI := []
theorem w92 {p0 : Nat} {p1 : Nat} {g : Glob} {Qf : Out → Glob → Prop} 
    (h : ∃ f c, GOk TT 111 g p0 0 (.clo f c) ∧ ∃ x, HasTy TT 27 x ∧ GOk TT 27 g p1 0 x ∧ EvF TT f (x :: c) g fun out g' => Outc (fun x => Qf (.panic x) g') (fun v => RetT v [] ∧ Qf (.val (.tuple [])) g') out) :
    EvF TT 92 [.ptr (some (p0, 0)), .ptr (some (p1, 0))] g Qf :=
  sx_fun (rk := rk) (fn := Tryz.f92) (loops := lo92) (joins := []) (n := 100000) (args := [(0, .ptr (some (p0, 0))), (0, .ptr (some (p1, 0)))]) rfl rfl rfl rfl ⟨tyPtr0 rfl, tyPtr0 rfl, trivial⟩ (by kernel_rfl) h
def L89_6 (p1 : Nat) (p4 : Nat) (x37 : Dat) (n38 : Int) (n39 : Int) (y5 : Dat) (g : Glob) (Qf : Out → Glob → Prop) : Prop := CutP TT Tryz.f89 [1, 1, 1, 0] Qf (mkC TT 89 Tryz.f89 5 [(1, .v 0 (.ptr (some (p1, 0)))), (4, .v 0 (.ptr (some (p4, 0)))), (5, .loc 5 0 0), (37, .v 24 (x37)), (38, .v 3 (.int .i64 n38)), (39, .v 3 (.int .i64 n39))] [(5, .whole 27 y5)] g)
def lo89 : List CutI := [⟨6, [(1, .keep), (4, .keep), (5, .keep), (37, .keep), (38, .keep), (39, .keep)], [(5, .whole 27)]⟩]
theorem w89 {x0 : Dat} {p1 : Nat} {p2 : Nat} {p3 : Nat} {p4 : Nat} {g : Glob} {Qf : Out → Glob → Prop} (h0 : HasTy TT 27 x0)
    (h : Br (intOf (fld x0 0) == 1) (∃ i o, GOk TT 107 g p1 0 (.ptr (some (i, o))) ∧ ∃ i_1, GOk TT 108 g i (o + 1) (Dat.map (some i_1)) ∧ ∃ n b, MLook g (some i_1) (.int .i64 0) (.str (strOf (fld x0 1))) (.int .i64 n) b ∧ Br (n == 0) (∃ i, GOk TT 108 g p2 0 (Dat.map (some i)) ∧ ∃ n b, MLook g (some i) (.int .i64 0) (.str (strOf (fld x0 1))) (.int .i64 n) b ∧ ∃ g', gmput g i (.str (strOf (fld x0 1))) (.int .i64 (IntKind.i64.wrap (n + 1))) = some g' ∧ ∃ i, GOk TT 108 g' p2 0 (Dat.map (some i)) ∧ ∃ n b, MLook g' (some i) (.int .i64 0) (.str (strOf (fld x0 1))) (.int .i64 n) b ∧ Br (n == 1) (∃ x, HasTy TT 61 x ∧ GOk TT 61 g' p3 0 x ∧ Fits ((elsOf x).length + [Dat.str (strOf (fld x0 1))].length) 16 ∧ ∃ r g'_1, gapp 1 x [.str (strOf (fld x0 1))] (gtok g' 1 1) = some (r, g'_1) ∧ GPut g'_1 p3 0 1 ∧ L89_6 p1 p4 (fld x0 4) (↑(elsOf (fld x0 4)).length : Int) 0 x0 (gput g'_1 p3 0 r) Qf) (L89_6 p1 p4 (fld x0 4) (↑(elsOf (fld x0 4)).length : Int) 0 x0 g' Qf)) (L89_6 p1 p4 (fld x0 4) (↑(elsOf (fld x0 4)).length : Int) 0 x0 g Qf)) (L89_6 p1 p4 (fld x0 4) (↑(elsOf (fld x0 4)).length : Int) 0 x0 g Qf)) :
    EvF TT 89 [x0, .ptr (some (p1, 0)), .ptr (some (p2, 0)), .ptr (some (p3, 0)), .ptr (some (p4, 0))] g Qf :=
  sx_fun (rk := rk) (fn := Tryz.f89) (loops := lo89) (joins := []) (n := 100000) (args := [(27, x0), (0, .ptr (some (p1, 0))), (0, .ptr (some (p2, 0))), (0, .ptr (some (p3, 0))), (0, .ptr (some (p4, 0)))]) rfl rfl rfl rfl ⟨h0, tyPtr0 rfl, tyPtr0 rfl, tyPtr0 rfl, tyPtr0 rfl, trivial⟩ (by kernel_rfl) h
theorem w89_6 {p1 : Nat} {p4 : Nat} {x37 : Dat} {n38 : Int} {n39 : Int} {y5 : Dat} {g : Glob} {Qf : Out → Glob → Prop} 
    (h : Br (decide (n39 < n38)) (InB n39 (elsOf x37).length ∧ GPut (gnew g [.int .i64 0, .str [], .str [], .int .i64 0, .nil, .nil, .int .i64 0]) g.boxes.length 0 7 ∧ ∃ i o, GOk TT 107 (gput (gnew g [.int .i64 0, .str [], .str [], .int .i64 0, .nil, .nil, .int .i64 0]) g.boxes.length 0 (getE (elsOf x37) n39)) p1 0 (.ptr (some (i, o))) ∧ EvF TT 91 [y5, .int .i64 n39] (gput (gnew g [.int .i64 0, .str [], .str [], .int .i64 0, .nil, .nil, .int .i64 0]) g.boxes.length 0 (getE (elsOf x37) n39)) fun out g' => Outc (fun x => GSame TT 107 p1 0 (gput (gnew g [.int .i64 0, .str [], .str [], .int .i64 0, .nil, .nil, .int .i64 0]) g.boxes.length 0 (getE (elsOf x37) n39)) (gput (gnew g [.int .i64 0, .str [], .str [], .int .i64 0, .nil, .nil, .int .i64 0]) g.boxes.length 0 (getE (elsOf x37) n39)) ∧ Qf (.panic x) g') (fun v => ∃ x, HasTy TT 61 x ∧ RetV v x ∧ GSame TT 107 p1 0 (gput (gnew g [.int .i64 0, .str [], .str [], .int .i64 0, .nil, .nil, .int .i64 0]) g.boxes.length 0 (getE (elsOf x37) n39)) g' ∧ EvF TT 90 [.ptr (some (i, o)), x, .clo 92 [.ptr (some (p4, 0)), .ptr (some (g.boxes.length, 0))]] g' fun out g' => Outc (fun x => Qf (.panic x) g') (fun v => RetT v [] ∧ L89_6 p1 p4 x37 n38 (IntKind.i64.wrap (n39 + 1)) y5 g' Qf) out) out) (Qf (.val (.tuple [])) g)) :
    L89_6 p1 p4 x37 n38 n39 y5 g Qf := sx_cut (rk := rk) (loops := lo89) (joins := []) (n := 100000) (by kernel_rfl) h
def L40_1 (y1 : Dat) (g : Glob) (Qf : Out → Glob → Prop) : Prop := CutP TT Tryz.f40 [1] Qf (mkC TT 40 Tryz.f40 1 [(1, .loc 1 0 0)] [(1, .whole 27 y1)] g)
def L40_2 (p3 : Nat) (y1 : Dat) (g : Glob) (Qf : Out → Glob → Prop) : Prop := CutP TT Tryz.f40 [1, 1] Qf (mkC TT 40 Tryz.f40 1 [(1, .loc 1 0 0), (3, .v 0 (.ptr (some (p3, 0))))] [(1, .whole 27 y1)] g)
def L40_3 (p3 : Nat) (p4 : Nat) (y1 : Dat) (g : Glob) (Qf : Out → Glob → Prop) : Prop := CutP TT Tryz.f40 [1, 1, 1] Qf (mkC TT 40 Tryz.f40 1 [(1, .loc 1 0 0), (3, .v 0 (.ptr (some (p3, 0)))), (4, .v 0 (.ptr (some (p4, 0))))] [(1, .whole 27 y1)] g)
def L40_4 (p3 : Nat) (p4 : Nat) (p5 : Nat) (y1 : Dat) (g : Glob) (Qf : Out → Glob → Prop) : Prop := CutP TT Tryz.f40 [1, 1, 1, 1] Qf (mkC TT 40 Tryz.f40 1 [(1, .loc 1 0 0), (3, .v 0 (.ptr (some (p3, 0)))), (4, .v 0 (.ptr (some (p4, 0)))), (5, .v 0 (.ptr (some (p5, 0))))] [(1, .whole 27 y1)] g)
def L40_5 (p3 : Nat) (p4 : Nat) (p5 : Nat) (p6 : Nat) (y1 : Dat) (g : Glob) (Qf : Out → Glob → Prop) : Prop := CutP TT Tryz.f40 [1, 1, 1, 1, 1] Qf (mkC TT 40 Tryz.f40 1 [(1, .loc 1 0 0), (3, .v 0 (.ptr (some (p3, 0)))), (4, .v 0 (.ptr (some (p4, 0)))), (5, .v 0 (.ptr (some (p5, 0)))), (6, .v 0 (.ptr (some (p6, 0))))] [(1, .whole 27 y1)] g)
def L40_6 (p4 : Nat) (p6 : Nat) (y1 : Dat) (g : Glob) (Qf : Out → Glob → Prop) : Prop := CutP TT Tryz.f40 [1, 1, 1, 1, 1, 1] Qf (mkC TT 40 Tryz.f40 1 [(1, .loc 1 0 0), (4, .v 0 (.ptr (some (p4, 0)))), (6, .v 0 (.ptr (some (p6, 0))))] [(1, .whole 27 y1)] g)
def lo40 : List CutI := []
def jo40 : List CutI := [⟨1, [(1, .keep)], [(1, .whole 27)]⟩, ⟨2, [(1, .keep), (3, .keep)], [(1, .whole 27)]⟩, ⟨3, [(1, .keep), (3, .keep), (4, .keep)], [(1, .whole 27)]⟩, ⟨4, [(1, .keep), (3, .keep), (4, .keep), (5, .keep)], [(1, .whole 27)]⟩, ⟨5, [(1, .keep), (3, .keep), (4, .keep), (5, .keep), (6, .keep)], [(1, .whole 27)]⟩, ⟨6, [(1, .keep), (4, .keep), (6, .keep)], [(1, .whole 27)]⟩]
theorem w40 {x0 : Dat} {g : Glob} {Qf : Out → Glob → Prop} (h0 : HasTy TT 27 x0)
    (h : L40_1 x0 g Qf) :
    EvF TT 40 [x0] g Qf :=
  sx_fun (rk := rk) (fn := Tryz.f40) (loops := lo40) (joins := jo40) (n := 100000) (args := [(27, x0)]) rfl rfl rfl rfl ⟨h0, trivial⟩ (by kernel_rfl) h
theorem w40_1 {y1 : Dat} {g : Glob} {Qf : Out → Glob → Prop} 
    (h : GPut (gnew (gnew (gmnew g) [Dat.nil, Dat.map (some g.boxes.length)]) [Dat.ptr none]) (gnew (gmnew g) [Dat.nil, Dat.map (some g.boxes.length)]).boxes.length 0 1 ∧ L40_2 (gnew (gmnew g) [Dat.nil, Dat.map (some g.boxes.length)]).boxes.length y1 (gput (gnew (gnew (gmnew g) [Dat.nil, Dat.map (some g.boxes.length)]) [Dat.ptr none]) (gnew (gmnew g) [Dat.nil, Dat.map (some g.boxes.length)]).boxes.length 0 (Dat.ptr (some ((gmnew g).boxes.length, 0)))) Qf) :
    L40_1 y1 g Qf := sx_cut (rk := rk) (loops := lo40) (joins := jo40) (n := 100000) (by kernel_rfl) h
theorem w40_2 {p3 : Nat} {y1 : Dat} {g : Glob} {Qf : Out → Glob → Prop} 
    (h : L40_3 p3 g.boxes.length y1 (gnew g [Dat.nil]) Qf) :
    L40_2 p3 y1 g Qf := sx_cut (rk := rk) (loops := lo40) (joins := jo40) (n := 100000) (by kernel_rfl) h
theorem w40_3 {p3 : Nat} {p4 : Nat} {y1 : Dat} {g : Glob} {Qf : Out → Glob → Prop} 
    (h : GPut (gnew (gmnew g) [Dat.map none]) (gmnew g).boxes.length 0 1 ∧ L40_4 p3 p4 (gmnew g).boxes.length y1 (gput (gnew (gmnew g) [Dat.map none]) (gmnew g).boxes.length 0 (Dat.map (some g.boxes.length))) Qf) :
    L40_3 p3 p4 y1 g Qf := sx_cut (rk := rk) (loops := lo40) (joins := jo40) (n := 100000) (by kernel_rfl) h
theorem w40_4 {p3 : Nat} {p4 : Nat} {p5 : Nat} {y1 : Dat} {g : Glob} {Qf : Out → Glob → Prop} 
    (h : L40_5 p3 p4 p5 g.boxes.length y1 (gnew g [Dat.nilFn]) Qf) :
    L40_4 p3 p4 p5 y1 g Qf := sx_cut (rk := rk) (loops := lo40) (joins := jo40) (n := 100000) (by kernel_rfl) h
theorem w40_5 {p3 : Nat} {p4 : Nat} {p5 : Nat} {p6 : Nat} {y1 : Dat} {g : Glob} {Qf : Out → Glob → Prop} 
    (h : GPut g p6 0 1 ∧ L40_6 p4 p6 y1 (gput g p6 0 (Dat.clo 89 [Dat.ptr (some (p3, 0)), Dat.ptr (some (p5, 0)), Dat.ptr (some (p4, 0)), Dat.ptr (some (p6, 0))])) Qf) :
    L40_5 p3 p4 p5 p6 y1 g Qf := sx_cut (rk := rk) (loops := lo40) (joins := jo40) (n := 100000) (by kernel_rfl) h
theorem w40_6 {p4 : Nat} {p6 : Nat} {y1 : Dat} {g : Glob} {Qf : Out → Glob → Prop} 
    (h : ∃ f c, GOk TT 111 g p6 0 (.clo f c) ∧ EvF TT f (y1 :: c) g fun out g' => Outc (fun x => Qf (.panic x) g') (fun v => RetT v [] ∧ ∃ x, HasTy TT 61 x ∧ GOk TT 61 g' p4 0 x ∧ ∀ (v : Val), RetV v x → Qf (.val v) g') out) :
    L40_6 p4 p6 y1 g Qf := sx_cut (rk := rk) (loops := lo40) (joins := jo40) (n := 100000) (by kernel_rfl) h
def L44_2 (x0 : Dat) (s1 : List UInt8) (n5 : Int) (g : Glob) (Qf : Out → Glob → Prop) : Prop := CutP TT Tryz.f44 [1, 0, 1, 0] Qf (mkC TT 44 Tryz.f44 2 [(0, .v 61 (x0)), (1, .v 9 (.str s1)), (5, .v 3 (.int .i64 n5))] [] g)
def lo44 : List CutI := [⟨2, [(0, .keep), (1, .keep), (5, .keep)], []⟩]
theorem w44 {x0 : Dat} {s1 : List UInt8} {g : Glob} {Qf : Out → Glob → Prop} (h0 : HasTy TT 61 x0) (h1 : s1.length ≤ 2 ^ 40)
    (h : L44_2 x0 s1 0 g Qf) :
    EvF TT 44 [x0, .str s1] g Qf :=
  sx_fun (rk := rk) (fn := Tryz.f44) (loops := lo44) (joins := []) (n := 100000) (args := [(61, x0), (9, .str s1)]) rfl rfl rfl rfl ⟨h0, tyStr rfl h1, trivial⟩ (by kernel_rfl) h
theorem w44_2 {x0 : Dat} {s1 : List UInt8} {n5 : Int} {g : Glob} {Qf : Out → Glob → Prop} 
    (h : Br (decide (n5 < (↑(elsOf x0).length : Int))) (InB n5 (elsOf x0).length ∧ Br (strOf (fld (getE (elsOf x0) n5) 0) == s1) (Qf (.val (.d (.bool true))) g) (L44_2 x0 s1 (IntKind.i64.wrap (n5 + 1)) g Qf)) (Qf (.val (.d (.bool false))) g)) :
    L44_2 x0 s1 n5 g Qf := sx_cut (rk := rk) (loops := lo44) (joins := []) (n := 100000) (by kernel_rfl) h
def L39_4 (x0 : Dat) (x1 : Dat) (n5 : Int) (g : Glob) (Qf : Out → Glob → Prop) : Prop := CutP TT Tryz.f39 [1, 1, 0, 1, 0] Qf (mkC TT 39 Tryz.f39 2 [(0, .v 61 (x0)), (1, .v 61 (x1)), (5, .v 3 (.int .i64 n5))] [] g)
def lo39 : List CutI := [⟨4, [(0, .keep), (1, .keep), (5, .keep)], []⟩]
theorem w39 {x0 : Dat} {x1 : Dat} {g : Glob} {Qf : Out → Glob → Prop} (h0 : HasTy TT 61 x0) (h1 : HasTy TT 61 x1)
    (h : Br ((↑(elsOf x0).length : Int) != (↑(elsOf x1).length : Int)) (Qf (.val (.d (.bool false))) g) (L39_4 x0 x1 0 g Qf)) :
    EvF TT 39 [x0, x1] g Qf :=
  sx_fun (rk := rk) (fn := Tryz.f39) (loops := lo39) (joins := []) (n := 100000) (args := [(61, x0), (61, x1)]) rfl rfl rfl rfl ⟨h0, h1, trivial⟩ (by kernel_rfl) h
theorem w39_4 {x0 : Dat} {x1 : Dat} {n5 : Int} {g : Glob} {Qf : Out → Glob → Prop} 
    (h : Br (decide (n5 < (↑(elsOf x0).length : Int))) (InB n5 (elsOf x0).length ∧ InB n5 (elsOf x1).length ∧ Br (!strOf (fld (getE (elsOf x0) n5) 0) == strOf (fld (getE (elsOf x1) n5) 0)) (Qf (.val (.d (.bool false))) g) (L39_4 x0 x1 (IntKind.i64.wrap (n5 + 1)) g Qf)) (Qf (.val (.d (.bool true))) g)) :
    L39_4 x0 x1 n5 g Qf := sx_cut (rk := rk) (loops := lo39) (joins := []) (n := 100000) (by kernel_rfl) h
def lo38 : List CutI := []
theorem w38 {x0 : Dat} {g : Glob} {Qf : Out → Glob → Prop} (h0 : HasTy TT 27 x0)
    (h : EvF TT 27 [.agg [.nil, .int .i64 (intOf (fld x0 0)), .str (strOf (fld x0 1)), .str (strOf (fld x0 2)), .int .i64 (intOf (fld x0 3)), fld x0 4, fld x0 5, .int .i64 (intOf (fld x0 6))]] g fun out g' => Outc (fun x => Qf (.panic x) g') (fun v => ∃ n, v = .d (.int .i64 n) ∧ Qf (.val (.d (.bool (decide (n ≤ 1200))))) g') out) :
    EvF TT 38 [x0] g Qf :=
  sx_fun (rk := rk) (fn := Tryz.f38) (loops := lo38) (joins := []) (n := 100000) (args := [(27, x0)]) rfl rfl rfl rfl ⟨h0, trivial⟩ (by kernel_rfl) h
def L14_11 (s2 : List UInt8) (x7 : Dat) (x8 : Dat) (x9 : Dat) (x10 : Dat) (x11 : Dat) (l12 : List Dat) (l13 : List Dat) (n14 : Int) (g : Glob) (Qf : Out → Glob → Prop) : Prop := CutP TT Tryz.f14 [1, 1, 1, 1, 1, 1, 1, 1, 1, 0, 1, 0] Qf (mkC TT 14 Tryz.f14 3 [(2, .v 9 (.str s2)), (7, .v 61 (x7)), (8, .v 61 (x8)), (9, .v 61 (x9)), (10, .v 61 (x10)), (11, .v 61 (x11)), (12, .own 65 0 61 1 l12), (13, .own 68 0 61 1 l13), (14, .v 3 (.int .i64 n14))] [] g)
def L14_19 (s2 : List UInt8) (x7 : Dat) (x9 : Dat) (x10 : Dat) (x11 : Dat) (l12 : List Dat) (l13 : List Dat) (l15 : List Dat) (n16 : Int) (g : Glob) (Qf : Out → Glob → Prop) : Prop := CutP TT Tryz.f14 [1, 1, 1, 1, 1, 1, 1, 1, 1, 1, 1, 0, 1, 0] Qf (mkC TT 14 Tryz.f14 3 [(2, .v 9 (.str s2)), (7, .v 61 (x7)), (9, .v 61 (x9)), (10, .v 61 (x10)), (11, .v 61 (x11)), (12, .own 65 0 61 1 l12), (13, .own 68 0 61 1 l13), (15, .acc [(131, 0)] 61 1 l15), (16, .v 3 (.int .i64 n16))] [] g)
def lo14 : List CutI := [⟨11, [(2, .keep), (7, .keep), (8, .keep), (9, .keep), (10, .keep), (11, .keep), (12, .keep), (13, .keep), (14, .keep)], []⟩, ⟨19, [(2, .keep), (7, .keep), (9, .keep), (10, .keep), (11, .keep), (12, .keep), (13, .keep), (15, .acc [131]), (16, .keep)], []⟩]
theorem w14 {x0 : Dat} {x1 : Dat} {s2 : List UInt8} {g : Glob} {Qf : Out → Glob → Prop} (h0 : HasTy TT 27 x0) (h1 : HasTy TT 27 x1) (h2 : s2.length ≤ 2 ^ 40)
    (h : EvF TT 37 [x0] g fun out g' => Outc (fun x => Qf (.panic x) g') (fun v => ∃ b, v = .d (.bool b) ∧ Br b (EvF TT 28 [] g' fun out g' => Outc (fun x => Qf (.panic x) g') (fun v => ∃ b, v = .d (.bool b) ∧ Qf (.val (.d (.bool b))) g') out) (EvF TT 37 [x1] g' fun out g' => Outc (fun x => Qf (.panic x) g') (fun v => ∃ b, v = .d (.bool b) ∧ Br b (EvF TT 28 [] g' fun out g' => Outc (fun x => Qf (.panic x) g') (fun v => ∃ b, v = .d (.bool b) ∧ Qf (.val (.d (.bool b))) g') out) (EvF TT 38 [x0] g' fun out g' => Outc (fun x => Qf (.panic x) g') (fun v => ∃ b, v = .d (.bool b) ∧ Br (!b) (EvF TT 28 [] g' fun out g' => Outc (fun x => Qf (.panic x) g') (fun v => ∃ b, v = .d (.bool b) ∧ Qf (.val (.d (.bool b))) g') out) (EvF TT 38 [x1] g' fun out g' => Outc (fun x => Qf (.panic x) g') (fun v => ∃ b, v = .d (.bool b) ∧ Br (!b) (EvF TT 28 [] g' fun out g' => Outc (fun x => Qf (.panic x) g') (fun v => ∃ b, v = .d (.bool b) ∧ Qf (.val (.d (.bool b))) g') out) (EvF TT 41 [.sl 7 [x0]] g' fun out g' => Outc (fun x => Qf (.panic x) g') (fun v => ∃ x, HasTy TT 24 x ∧ RetV v x ∧ InB 0 (elsOf x).length ∧ EvF TT 40 [getE (elsOf x) 0] g' fun out g' => Outc (fun x => Qf (.panic x) g') (fun v => ∃ x, HasTy TT 61 x ∧ RetV v x ∧ EvF TT 41 [.sl 7 [x1]] g' fun out g' => Outc (fun x => Qf (.panic x) g') (fun v => ∃ x_1, HasTy TT 24 x_1 ∧ RetV v x_1 ∧ InB 0 (elsOf x_1).length ∧ EvF TT 40 [getE (elsOf x_1) 0] g' fun out g' => Outc (fun x => Qf (.panic x) g') (fun v => ∃ x_2, HasTy TT 61 x_2 ∧ RetV v x_2 ∧ EvF TT 41 [.sl 7 [x0, x1]] g' fun out g' => Outc (fun x => Qf (.panic x) g') (fun v => ∃ x_3, HasTy TT 24 x_3 ∧ RetV v x_3 ∧ EvF TT 40 [.agg [.int .i64 4, .str [], .str [], .int .i64 0, x_3, .nil, .int .i64 0]] g' fun out g' => Outc (fun x => Qf (.panic x) g') (fun v => ∃ x_4, HasTy TT 61 x_4 ∧ RetV v x_4 ∧ EvF TT 41 [.sl 7 [x0]] g' fun out g' => Outc (fun x => Qf (.panic x) g') (fun v => ∃ x_5, HasTy TT 24 x_5 ∧ RetV v x_5 ∧ EvF TT 40 [.agg [.int .i64 3, .str s2, .str [], .int .i64 0, x_5, .nil, .int .i64 0]] g' fun out g' => Outc (fun x => Qf (.panic x) g') (fun v => ∃ x_6, HasTy TT 61 x_6 ∧ RetV v x_6 ∧ EvF TT 41 [.sl 7 [x0, x1]] g' fun out g' => Outc (fun x => Qf (.panic x) g') (fun v => ∃ x_7, HasTy TT 24 x_7 ∧ RetV v x_7 ∧ EvF TT 40 [.agg [.int .i64 5, .str s2, .str [], .int .i64 0, x_7, .nil, .int .i64 0]] g' fun out g' => Outc (fun x => Qf (.panic x) g') (fun v => ∃ x_8, HasTy TT 61 x_8 ∧ RetV v x_8 ∧ Fits (0 + (elsOf x).length) 16 ∧ Fits (0 + (elsOf x).length) 16 ∧ L14_11 s2 x x_2 x_4 x_6 x_8 ([] ++ elsOf x) ([] ++ elsOf x) 0 g' Qf) out) out) out) out) out) out) out) out) out) out)) out)) out)) out)) out) :
    EvF TT 14 [x0, x1, .str s2] g Qf :=
  sx_fun (rk := rk) (fn := Tryz.f14) (loops := lo14) (joins := []) (n := 100000) (args := [(27, x0), (27, x1), (9, .str s2)]) rfl rfl rfl rfl ⟨h0, h1, tyStr rfl h2, trivial⟩ (by kernel_rfl) h
theorem w14_11 {s2 : List UInt8} {x7 : Dat} {x8 : Dat} {x9 : Dat} {x10 : Dat} {x11 : Dat} {l12 : List Dat} {l13 : List Dat} {n14 : Int} {g : Glob} {Qf : Out → Glob → Prop} 
    (h : Br (decide (n14 < (↑(elsOf x8).length : Int))) (InB n14 (elsOf x8).length ∧ EvF TT 44 [.sl 1 l12, .str (strOf (fld (getE (elsOf x8) n14) 0))] g fun out g' => Outc (fun x => Qf (.panic x) g') (fun v => ∃ b, v = .d (.bool b) ∧ Br (!b) (InB n14 (elsOf x8).length ∧ Fits (l12.length + [Dat.str (strOf (fld (getE (elsOf x8) n14) 0))].length) 16 ∧ InB n14 (elsOf x8).length ∧ Br (!strOf (fld (getE (elsOf x8) n14) 0) == s2) (InB n14 (elsOf x8).length ∧ EvF TT 44 [.sl 1 l13, .str (strOf (fld (getE (elsOf x8) n14) 0))] g' fun out g' => Outc (fun x => Qf (.panic x) g') (fun v => ∃ b, v = .d (.bool b) ∧ Br (!b) (InB n14 (elsOf x8).length ∧ Fits (l13.length + [Dat.str (strOf (fld (getE (elsOf x8) n14) 0))].length) 16 ∧ L14_11 s2 x7 x8 x9 x10 x11 (l12 ++ [Dat.str (strOf (fld (getE (elsOf x8) n14) 0))]) (l13 ++ [Dat.str (strOf (fld (getE (elsOf x8) n14) 0))]) (IntKind.i64.wrap (n14 + 1)) g' Qf) (L14_11 s2 x7 x8 x9 x10 x11 (l12 ++ [Dat.str (strOf (fld (getE (elsOf x8) n14) 0))]) l13 (IntKind.i64.wrap (n14 + 1)) g' Qf)) out) (L14_11 s2 x7 x8 x9 x10 x11 (l12 ++ [Dat.str (strOf (fld (getE (elsOf x8) n14) 0))]) l13 (IntKind.i64.wrap (n14 + 1)) g' Qf)) (InB n14 (elsOf x8).length ∧ Br (!strOf (fld (getE (elsOf x8) n14) 0) == s2) (InB n14 (elsOf x8).length ∧ EvF TT 44 [.sl 1 l13, .str (strOf (fld (getE (elsOf x8) n14) 0))] g' fun out g' => Outc (fun x => Qf (.panic x) g') (fun v => ∃ b, v = .d (.bool b) ∧ Br (!b) (InB n14 (elsOf x8).length ∧ Fits (l13.length + [Dat.str (strOf (fld (getE (elsOf x8) n14) 0))].length) 16 ∧ L14_11 s2 x7 x8 x9 x10 x11 l12 (l13 ++ [Dat.str (strOf (fld (getE (elsOf x8) n14) 0))]) (IntKind.i64.wrap (n14 + 1)) g' Qf) (L14_11 s2 x7 x8 x9 x10 x11 l12 l13 (IntKind.i64.wrap (n14 + 1)) g' Qf)) out) (L14_11 s2 x7 x8 x9 x10 x11 l12 l13 (IntKind.i64.wrap (n14 + 1)) g' Qf))) out) (L14_19 s2 x7 x9 x10 x11 l12 l13 [] 0 g Qf)) :
    L14_11 s2 x7 x8 x9 x10 x11 l12 l13 n14 g Qf := sx_cut (rk := rk) (loops := lo14) (joins := []) (n := 100000) (by kernel_rfl) h
theorem w14_19 {s2 : List UInt8} {x7 : Dat} {x9 : Dat} {x10 : Dat} {x11 : Dat} {l12 : List Dat} {l13 : List Dat} {l15 : List Dat} {n16 : Int} {g : Glob} {Qf : Out → Glob → Prop} 
    (h : Br (decide (n16 < (↑(elsOf x7).length : Int))) (InB n16 (elsOf x7).length ∧ Br (!strOf (fld (getE (elsOf x7) n16) 0) == s2) (InB n16 (elsOf x7).length ∧ Fits (l15.length + [Dat.str (strOf (fld (getE (elsOf x7) n16) 0))].length) 16 ∧ L14_19 s2 x7 x9 x10 x11 l12 l13 (l15 ++ [Dat.str (strOf (fld (getE (elsOf x7) n16) 0))]) (IntKind.i64.wrap (n16 + 1)) g Qf) (L14_19 s2 x7 x9 x10 x11 l12 l13 l15 (IntKind.i64.wrap (n16 + 1)) g Qf)) (EvF TT 39 [x9, .sl 1 l12] g fun out g' => Outc (fun x => Qf (.panic x) g') (fun v => ∃ b, v = .d (.bool b) ∧ Br b (EvF TT 39 [x10, slOf 1 l15] g' fun out g' => Outc (fun x => Qf (.panic x) g') (fun v => ∃ b, v = .d (.bool b) ∧ Br b (EvF TT 39 [x11, .sl 1 l13] g' fun out g' => Outc (fun x => Qf (.panic x) g') (fun v => ∃ b, v = .d (.bool b) ∧ Br b (EvF TT 28 [] g' fun out g' => Outc (fun x => Qf (.panic x) g') (fun v => ∃ b, v = .d (.bool b) ∧ Qf (.val (.d (.bool b))) g') out) (Qf (.val (.d (.bool false))) g')) out) (Qf (.val (.d (.bool false))) g')) out) (Qf (.val (.d (.bool false))) g')) out)) :
    L14_19 s2 x7 x9 x10 x11 l12 l13 l15 n16 g Qf := sx_cut (rk := rk) (loops := lo14) (joins := []) (n := 100000) (by kernel_rfl) h
end Go.Proofs.YtgmapdcdmomioaaGreatDoor.Pa
namespace Go.Proofs.YtgmapdcdmomioaaGreatDoor.Pa
open Go Go.Proofs.YtgmapdcdmomioaaGreatDoor.Am
theorem mapStr_inj {l k : List Str} (h : l.map Dat.str = k.map Dat.str) : l = k := by
  have := congrArg (List.map strOf) h
  rw [List.map_map, List.map_map] at this
  have e : ∀ m : List Str, m.map (strOf ∘ Dat.str) = m := fun m => List.map_id'' (fun _ => rfl) m
  rw [e, e] at this
  exact this
theorem bcast {a b : Bool} {g : Glob} {Qf : Out → Glob → Prop} (h : Qf (.val (.d (.bool a))) g) (e : a = b) : Qf (.val (.d (.bool b))) g := e ▸ h
theorem l14among_ok {x : Dat} {l : List Str} {s : Str} {g : Glob} {Qf : Out → Glob → Prop} (hx : HasTy TT 61 x) (hl : elsOf x = l.map .str) (hs : s.length ≤ 2 ^ 40) (hQ : Qf (.val (.d (.bool (l.contains s)))) g) : EvF TT 44 [x, .str s] g Qf := by
  have hn : l.length ≤ 2 ^ 40 := by have := (hx.els undStrs).1.1; rw [elsLen hl] at this; exact this
  refine w44 hx hs ?_
  refine loopUp (len := l.length) (fun i => Qf (.val (.d (.bool ((l.drop i).contains s)))) g → L44_2 x s (i : Int) g Qf) ?_ ?_ 0 (Nat.zero_le _) hQ
  · intro hQ
    refine w44_2 ?_
    rw [elsLen hl, Br_ge]
    rw [List.drop_length] at hQ
    exact hQ
  · intro i hi ih hQ
    refine w44_2 ?_
    rw [elsLen hl, Br_lt hi, strAt hl hi]
    rw [List.drop_eq_getElem_cons hi, List.contains_cons] at hQ
    refine ⟨inB hi, Br_iff.2 ⟨fun q => bcast hQ ?_, fun q => ?_⟩⟩
    · have : s = l[i] := by simpa using (by simpa using q : l[i] = s).symm
      simp [this]
    · rw [wrap_nat (by omega)]
      refine ih (bcast hQ ?_)
      have : (s == l[i]) = false := by
        rw [beq_eq_false_iff_ne]
        intro e
        subst e
        simp at q
      rw [this, Bool.false_or]
theorem texts_ok {x y : Dat} {l k : List Str} {g : Glob} {Qf : Out → Glob → Prop} (hx : HasTy TT 61 x) (hl : elsOf x = l.map .str) (hy : HasTy TT 61 y) (hk : elsOf y = k.map .str) (hQ : Qf (.val (.d (.bool (l == k)))) g) : EvF TT 39 [x, y] g Qf := by
  have hn : l.length ≤ 2 ^ 40 := by have := (hx.els undStrs).1.1; rw [elsLen hl] at this; exact this
  refine w39 hx hy ?_
  rw [elsLen hl, elsLen hk]
  refine Br_iff.2 ⟨fun q => bcast hQ ?_, fun q => ?_⟩
  · rw [beq_eq_false_iff_ne]
    intro e
    subst e
    simp at q
  · have hlen : l.length = k.length := by
      have : (l.length : Int) = k.length := by simpa using q
      omega
    refine loopUp (len := l.length) (fun i => Qf (.val (.d (.bool (l.drop i == k.drop i)))) g → L39_4 x y (i : Int) g Qf) ?_ ?_ 0 (Nat.zero_le _) hQ
    · intro hQ
      refine w39_4 ?_
      rw [elsLen hl, Br_ge]
      refine bcast hQ ?_
      rw [List.drop_length, hlen, List.drop_length]
      rfl
    · intro i hi ih hQ
      have hi' : i < k.length := by omega
      refine w39_4 ?_
      rw [elsLen hl, elsLen hk, Br_lt hi, strAt hl hi, strAt hk hi']
      rw [List.drop_eq_getElem_cons hi, List.drop_eq_getElem_cons hi'] at hQ
      refine ⟨inB hi, inB hi', Br_iff.2 ⟨fun q => bcast hQ ?_, fun q => ?_⟩⟩
      · rw [beq_eq_false_iff_ne]
        intro e
        have := (List.cons.inj e).1
        simp [this] at q
      · rw [wrap_nat (by omega)]
        refine ih (bcast hQ ?_)
        have : l[i] = k[i] := by simpa using q
        rw [List.cons_beq_cons, this, beq_self_eq_true, Bool.true_and]
theorem vars_ok : ∀ (n : Nat) {x X : Dat} {l : List Str} {b : Nat} {g : Glob} {Qf : Out → Glob → Prop}, SizeOf.sizeOf x < n → HasTy TT 127 x → Gr b g X l → b ≤ g.toks.length → (∀ s ∈ l, s.length ≤ 2 ^ 40) → l.length + szPt (absPt x) ≤ 2 ^ 29 →
    (∀ X' g' v, Gr b g' X' (l ++ varsP (absPt x)) → (∀ s ∈ l ++ varsP (absPt x), s.length ≤ 2 ^ 40) → KeepT b g g' → RetV v X' → Qf (.val v) g') → EvF TT 160 [X, x] g Qf
  | 0, x, X, l, b, g, Qf, h, _, _, _, _, _, _ => by omega
  | n + 1, x, X, l, b, g, Qf, hsz, hx, hg, hb, hs, hn, hQ => by
    obtain ⟨k1, s1, v1, a1, p1, rfl, hs1, t1⟩ := pat_ty hx
    have ex := t1.els undPats
    have exl := ex.1.1
    have hc := sizeOf_cell (cs := [.int .i64 k1, .str s1, .int .i64 v1, a1, .int .i64 p1]) (c := a1) (by simp)
    have e1 : varsP (absPt (.agg [.int .i64 k1, .str s1, .int .i64 v1, a1, .int .i64 p1])) = (if k1 == 2 then [s1] else []) ++ varsPs (((elsOf a1).drop 0).map absPt) := by simp only [absPt, varsP, absPtA_map, List.drop_zero]
    have e2 : szPt (absPt (.agg [.int .i64 k1, .str s1, .int .i64 v1, a1, .int .i64 p1])) = 1 + szPts (((elsOf a1).drop 0).map absPt) := by simp only [absPt, szPt, absPtA_map, List.drop_zero]
    rw [e1] at hQ
    rw [e2] at hn
    have hF : l.length ≤ 2 ^ 29 := by omega
    have loop : ∀ {X : Dat} {l0 : List Str} {g0 : Glob}, Gr b g0 X l0 → b ≤ g0.toks.length → (∀ s ∈ l0, s.length ≤ 2 ^ 40) → l0.length + szPts (((elsOf a1).drop 0).map absPt) ≤ 2 ^ 29 →
        (∀ X' g' v, Gr b g' X' (l0 ++ varsPs (((elsOf a1).drop 0).map absPt)) → (∀ s ∈ l0 ++ varsPs (((elsOf a1).drop 0).map absPt), s.length ≤ 2 ^ 40) → KeepT b g0 g' → RetV v X' → Qf (.val v) g') → L160_4 X a1 ((elsOf a1).length : Int) 0 g0 Qf := by
      intro X l0 g0 hg hb hs hn hQ
      refine loopUp (len := (elsOf a1).length) (fun i => ∀ {X : Dat} {l0 : List Str} {g0 : Glob}, Gr b g0 X l0 → b ≤ g0.toks.length → (∀ s ∈ l0, s.length ≤ 2 ^ 40) → l0.length + szPts (((elsOf a1).drop i).map absPt) ≤ 2 ^ 29 →
        (∀ X' g' v, Gr b g' X' (l0 ++ varsPs (((elsOf a1).drop i).map absPt)) → (∀ s ∈ l0 ++ varsPs (((elsOf a1).drop i).map absPt), s.length ≤ 2 ^ 40) → KeepT b g0 g' → RetV v X' → Qf (.val v) g') → L160_4 X a1 ((elsOf a1).length : Int) (i : Int) g0 Qf) ?_ ?_ 0 (Nat.zero_le _) hg hb hs hn hQ
      · intro X l0 g0 hg hb hs hn hQ
        refine w160_4 ?_
        rw [Br_ge]
        rw [List.drop_length] at hQ
        simp only [List.map_nil, varsPs, List.append_nil] at hQ
        exact fun v hv => hQ X g0 v hg hs (KeepT.refl _ _) hv
      · intro i hi ih X l0 g0 hg hb hs hn hQ
        refine w160_4 ?_
        rw [Br_lt hi, getE_nat hi]
        have h1 := sizeOf_el hi
        rw [szPts_drop hi] at hn
        rw [varsPs_drop hi] at hQ
        refine ⟨inB hi, vars_ok n (by omega) (ex.2 _ (List.getElem_mem hi)) hg hb hs (by omega) fun X' g' v hg' hs' hk hv => ?_⟩
        have hlen := varsP_len (absPt (elsOf a1)[i])
        refine ⟨X', hg'.ty (by rw [List.length_append]; omega) hs', hv, ?_⟩
        rw [wrap_nat (by omega)]
        refine ih hg' (Nat.le_trans hb hk.len) hs' (by rw [List.length_append]; omega) fun X'' g'' v' h1 h2 h3 h4 => ?_
        rw [List.append_assoc] at h1 h2
        exact hQ X'' g'' v' h1 h2 (hk.trans h3) h4
    refine w160 (hg.ty (by omega) hs) hx ?_
    show Br (k1 == 2) (Fits ((elsOf X).length + 1) 16 ∧ ∃ r g', gapp 1 X [.str s1] (gtok g 1 1) = some (r, g') ∧ L160_4 r a1 ((elsOf a1).length : Int) 0 g' Qf) (L160_4 X a1 ((elsOf a1).length : Int) 0 g Qf)
    refine Br_iff.2 ⟨fun q => ?_, fun q => ?_⟩
    · rw [q] at hQ
      simp only [if_true] at hQ
      obtain ⟨r, g', a, h2, h3⟩ := hg.app hb s1
      refine ⟨fitS' (by rw [elsLen hg.els]; omega), r, g', a, loop h2 (Nat.le_trans hb h3.len) (fun s hs' => ?_) (by rw [List.length_append]; simp only [List.length_cons, List.length_nil]; omega) fun X' g'' v q1 q2 q3 q4 => ?_⟩
      · rcases List.mem_append.1 hs' with h | h
        · exact hs s h
        · rw [List.mem_singleton] at h; subst h; exact hs1
      · rw [List.append_assoc] at q1 q2
        exact hQ X' g'' v q1 q2 (h3.trans q3) q4
    · rw [q] at hQ
      simp only [Bool.false_eq_true, if_false, List.nil_append] at hQ
      exact loop hg hb hs (by omega) hQ
end Go.Proofs.YtgmapdcdmomioaaGreatDoor.Pa
namespace Go.Proofs.YtgmapdcdmomioaaGreatDoor.Pa
open Go Go.Proofs.YtgmapdcdmomioaaGreatDoor.Am
theorem oneBox_refl (i : Nat) (g : Glob) : OneBox i g g := by
  by_cases h : i < g.boxes.length
  · exact ⟨g.boxes[i], by simp⟩
  · exact ⟨default, by rw [List.set_eq_of_length_le (by omega)]⟩
theorem gokD {g : Glob} {i o n : Nat} {cs : List GVal} {x : Dat} {t : TypeId} {d : TypeDesc} (hu : TT.und t = some d) (hs : TT.size t = some n) (ha : isAggD d = false) (hb : g.boxes[i]? = some (.cells cs)) (hc : cs[o]? = some (.d x)) : GOk TT t g i o x := by
  refine ⟨.d x, ?_, rfl, rfl⟩
  simp only [gload, hb, loadV, hu, hs, ha, Bool.false_eq_true, if_false, List.head?_map, List.head?_drop, hc]
  rfl
theorem undMap : TT.und 108 = some (.map 9 3) := by kernel_rfl
theorem sizeMap : TT.size 108 = some 1 := by kernel_rfl
def ScBox (g : Glob) (p mb : Nat) (D : Dat) : Prop := g.boxes[p]? = some (.cells [.d D, .d (.map (some mb))])
theorem ScBox.map {g : Glob} {p mb : Nat} {D : Dat} (h : ScBox g p mb D) : GOk TT 108 g p 1 (.map (some mb)) := gokD undMap sizeMap rfl h rfl
theorem ScBox.one {g g' : Glob} {p mb : Nat} {D : Dat} {F : Dat → Option Dat} (h : ScBox g p mb D) (hm : MapIs true g mb F) (ho : OneBox mb g g') : ScBox g' p mb D := by
  have hne : p ≠ mb := fun e => by
    obtain ⟨es, c, h1, _⟩ := hm
    unfold ScBox at h
    rw [e, h1] at h
    cases h
  exact (ho.get hne).trans h
theorem with_ok {p mb f : Nat} {D x : Dat} {l : List Str} {cap : List Dat} {g : Glob} {c : Str → Nat} {Qf : Out → Glob → Prop} (hx : HasTy TT 61 x) (hl : elsOf x = l.map .str) (hc : ∀ s, c s + l.length ≤ 2 ^ 60) (h0 : ScBox g p mb D) (hm : MapIs true g mb (cntF c))
    (body : ∀ g1, OneBox mb g g1 → MapIs true g1 mb (cntF (addL c l)) → EvF TT f cap g1 fun out g2 => Outc (fun x => Qf (.panic x) g2) (fun v => RetT v [] ∧ ScBox g2 p mb D ∧ MapIs true g2 mb (cntF (addL c l)) ∧
      ∀ g3, OneBox mb g2 g3 → MapIs true g3 mb (cntF c) → Qf (.val (.tuple [])) g3) out) : EvF TT 90 [.ptr (some (p, 0)), x, .clo f cap] g Qf := by
  have eln := elsLen hl
  have hn : l.length ≤ 2 ^ 40 := by have := (hx.els undStrs).1.1; rw [eln] at this; exact this
  refine w90 hx ?_
  rw [eln]
  refine loopUp (len := l.length) (fun i => ∀ g1, OneBox mb g g1 → MapIs true g1 mb (cntF (addL c (l.take i))) → L90_1 p x f cap x (l.length : Int) (i : Int) g1 Qf) ?_ ?_ 0 (Nat.zero_le _) g (oneBox_refl _ _) (by simpa [addL_nil] using hm)
  · intro g1 ho hm1
    refine w90_1 ?_
    rw [Br_ge]
    rw [List.take_length] at hm1
    refine (body g1 ho hm1).mono fun out g2 hp => ?_
    cases out with
    | panic y => exact hp
    | val v =>
      obtain ⟨hv, hb2, hm2, hk⟩ := hp
      refine ⟨hv, ?_⟩
      rw [eln]
      refine loopUp (len := l.length) (fun i => ∀ g3, OneBox mb g2 g3 → MapIs true g3 mb (cntF (addL c (l.drop i))) → L90_7 p x (l.length : Int) (i : Int) g3 Qf) ?_ ?_ 0 (Nat.zero_le _) g2 (oneBox_refl _ _) hm2
      · intro g3 ho3 hm3
        refine w90_7 ?_
        rw [Br_ge]
        rw [List.drop_length, addL_nil] at hm3
        exact hk g3 ho3 hm3
      · intro i hi ih g3 ho3 hm3
        refine w90_7 ?_
        rw [Br_lt hi, strAt hl hi, eln]
        have hb3 := hb2.one hm2 ho3
        rw [List.drop_eq_getElem_cons hi] at hm3
        have hle : addL c (l[i] :: l.drop (i + 1)) l[i] ≤ 2 ^ 60 := addL_le c _ (fun s => by have := hc s; simp only [List.length_cons, List.length_drop]; omega) _
        have hpos : 1 ≤ addL c (l[i] :: l.drop (i + 1)) l[i] := by
          have : (l[i] :: l.drop (i + 1)).count l[i] = (l.drop (i + 1)).count l[i] + 1 := List.count_cons_self
          unfold addL
          omega
        have h1 := hm3.mlook (z := .int .i64 0) (strKey l[i])
        rw [cntF_get] at h1
        obtain ⟨g4, a, b, d⟩ := hm3.put (strKey l[i]) (.int .i64 (IntKind.i64.wrap ((addL c (l[i] :: l.drop (i + 1)) l[i] : Nat) - 1 : Int)))
        have hw : IntKind.i64.wrap ((addL c (l[i] :: l.drop (i + 1)) l[i] : Nat) - 1 : Int) = ((addL c (l[i] :: l.drop (i + 1)) l[i] - 1 : Nat) : Int) := by
          rw [wrap_id (by omega) (by omega)]
          omega
        have hb4 := hb3.one hm3 b
        have h2 := d.mlook (z := .int .i64 0) (strKey l[i])
        rw [updF_same] at h2
        refine ⟨inB hi, mb, hb3.map, _, _, h1, g4, a, mb, hb4.map, _, _, h2, ?_⟩
        rw [hw] at d ⊢
        refine Br_iff.2 ⟨fun q => ?_, fun q => ?_⟩
        · obtain ⟨g5, a5, b5, d5⟩ := d.del (strKey l[i])
          refine ⟨mb, hb4.map, g5, a5, ?_⟩
          rw [wrap_nat (by omega)]
          refine ih g5 ((ho3.trans b).trans b5) ?_
          have hz : addL c (l[i] :: l.drop (i + 1)) l[i] - 1 = 0 := by
            have : ((addL c (l[i] :: l.drop (i + 1)) l[i] - 1 : Nat) : Int) = 0 := by simpa using q
            omega
          rw [updF_updF, updF_del, ← hz, setC_dec] at d5
          exact d5
        · rw [wrap_nat (by omega)]
          refine ih g4 (ho3.trans b) ?_
          have hz : addL c (l[i] :: l.drop (i + 1)) l[i] - 1 ≠ 0 := by
            intro e
            rw [e] at q
            simp at q
          rw [updF_put _ _ hz, setC_dec] at d
          exact d
  · intro i hi ih g1 ho hm1
    refine w90_1 ?_
    rw [Br_lt hi, strAt hl hi, eln]
    have hb1 := h0.one hm ho
    have hle : addL c (l.take i) l[i] ≤ 2 ^ 60 := addL_le c _ (fun s => by have := hc s; rw [List.length_take]; omega) _
    obtain ⟨h1, g2, a, b, d⟩ := map_inc hm1 l[i] hle
    refine ⟨inB hi, mb, hb1.map, _, _, h1, g2, a, ?_⟩
    rw [wrap_nat (by omega)]
    refine ih g2 (ho.trans b) ?_
    rw [addL_app] at d
    rw [List.take_succ_eq_append_getElem hi]
    exact d
theorem nat0 (i : Nat) : ((i : Int) == 0) = (i == 0) := by
  rw [Bool.eq_iff_iff]; simp
theorem nat1 (i : Nat) : ((i : Int) == 1) = (i == 1) := by
  rw [Bool.eq_iff_iff]; simp; omega
theorem natP (i : Nat) : decide ((0 : Int) < (i : Int)) = decide (0 < i) := by simp
theorem natL (i n : Nat) : decide ((i : Int) ≤ (n : Int)) = decide (i ≤ n) := by simp
theorem absPt_at {b1 : Dat} {i : Nat} (h1 : 0 < i) (h2 : i ≤ (elsOf b1).length) : (((elsOf b1).map absPt)[i - 1]?).getD default = absPt ((elsOf b1)[i - 1]'(by omega)) := by
  rw [List.getElem?_map, List.getElem?_eq_getElem (by omega)]
  rfl
theorem patAt {b1 : Dat} {i : Nat} (h1 : 0 < i) (h2 : i ≤ (elsOf b1).length) (h3 : i ≤ 2 ^ 40) : InB (IntKind.i64.wrap ((i : Int) - 1)) (elsOf b1).length ∧ getE (elsOf b1) (IntKind.i64.wrap ((i : Int) - 1)) = (elsOf b1)[i - 1]'(by omega) := by
  rw [wrap_id (by omega) (by omega), show (i : Int) - 1 = ((i - 1 : Nat) : Int) from by omega]
  exact ⟨inB (by omega), getE_nat (by omega)⟩
theorem binds_ok {k1 v1 p1 : Int} {s1 r1 : Str} {a1 b1 : Dat} {i : Nat} {g : Glob} {Qf : Out → Glob → Prop} (hx : HasTy TT 27 (.agg [.int .i64 k1, .str s1, .str r1, .int .i64 v1, a1, b1, .int .i64 p1])) (hi : i ≤ 2 ^ 40) (hz : szPts ((elsOf b1).map absPt) ≤ 2 ^ 28)
    (hQ : ∀ v z g', RetV v z → HasTy TT 61 z → elsOf z = (bindsOf k1 s1 r1 ((elsOf b1).map absPt) i).map .str → KeepT g.toks.length g g' → Qf (.val v) g') : EvF TT 91 [.agg [.int .i64 k1, .str s1, .str r1, .int .i64 v1, a1, b1, .int .i64 p1], .int .i64 i] g Qf := by
  obtain ⟨k', s', r', n', a', b', p', e, hs, hr, ta, tb⟩ := expr_ty hx
  cases e
  have L1 : bindsOf k1 s1 r1 ((elsOf b1).map absPt) i = [s1] → Qf (.val (.uq 1 [.str s1])) g := fun e => hQ _ (.sl 1 ([s1].map .str)) g rfl (strs_sl (by simp) (by simpa using hs)) (by rw [e]; rfl) (KeepT.refl _ _)
  have L2 : bindsOf k1 s1 r1 ((elsOf b1).map absPt) i = [s1, r1] → Qf (.val (.uq 1 [.str s1, .str r1])) g := fun e => hQ _ (.sl 1 ([s1, r1].map .str)) g rfl (strs_sl (by simp) (by simpa using ⟨hs, hr⟩)) (by rw [e]; rfl) (KeepT.refl _ _)
  have L0 : bindsOf k1 s1 r1 ((elsOf b1).map absPt) i = [] → ∀ v, RetV v .nil → Qf (.val v) g := fun e v hv => hQ v .nil g hv strs_nil (by rw [e]; rfl) (KeepT.refl _ _)
  have L3 : (∀ x, bindsOf k1 s1 r1 ((elsOf b1).map absPt) i = varsP ((((elsOf b1).map absPt)[i - 1]?).getD default) ∨ x) → 0 < i → i ≤ (elsOf b1).length → InB (IntKind.i64.wrap ((i : Int) - 1)) (elsOf b1).length ∧
      EvF TT 160 [Dat.nil, getE (elsOf b1) (IntKind.i64.wrap ((i : Int) - 1))] g fun out g' => Outc (fun x => Qf (Out.panic x) g') (fun v => ∃ x, HasTy TT 61 x ∧ RetV v x ∧ ∀ (v : Val), RetV v x → Qf (Out.val v) g') out := fun e h1 h2 => by
    have e := (e False).resolve_right id
    rw [absPt_at h1 h2] at e
    obtain ⟨q1, q2⟩ := patAt h1 h2 hi
    refine ⟨q1, ?_⟩
    rw [q2]
    have hm : szPt (absPt ((elsOf b1)[i - 1]'(by omega))) ≤ 2 ^ 28 := Nat.le_trans (szPts_mem (i := i - 1) (by rw [List.getElem?_map, List.getElem?_eq_getElem (by omega)]; rfl)) hz
    refine vars_ok _ (Nat.lt_succ_self _) ((tb.els undPats).2 _ (List.getElem_mem _)) (Gr.nil g.toks.length g) (Nat.le_refl _) (fun s h => by cases h) (by simp only [List.length_nil]; omega) fun X' g' v h3 h4 h5 h6 => ?_
    rw [List.nil_append] at h3 h4
    have hlen := varsP_len (absPt ((elsOf b1)[i - 1]'(by omega)))
    have hty := h3.ty (by omega) h4
    exact ⟨X', hty, h6, fun v' hv' => hQ v' X' g' hv' hty (by rw [e]; exact h3.els) h5⟩
  have key : ∀ b5, b5 = (k1 == 3 && i == 0 || k1 == 5 && i == 1 || k1 == 6 && i == 1) → L91_4 (i : Int) b5 (.agg [.int .i64 k1, .str s1, .str r1, .int .i64 v1, a1, b1, .int .i64 p1]) g Qf := by
    intro b5 h5
    refine w91_4 ?_
    rw [nat0, natP]
    rw [show ((fld (.agg [.int .i64 k1, .str s1, .str r1, .int .i64 v1, a1, b1, .int .i64 p1]) 5)) = b1 from rfl, natL]
    show Br b5 (Qf (.val (.uq 1 [.str s1])) g) (Br (k1 == 6) (Br (i == 0) (Qf (.val (.uq 1 [.str s1, .str r1])) g) (Br (k1 == 7) (Br (decide (0 < i)) (Br (decide (i ≤ (elsOf b1).length)) _ _) _) _)) (Br (k1 == 7) (Br (decide (0 < i)) (Br (decide (i ≤ (elsOf b1).length)) _ _) _) _))
    have hlen : ((elsOf b1).map absPt).length = (elsOf b1).length := by simp
    refine Br_iff.2 ⟨fun q1 => L1 ?_, fun q1 => ?_⟩
    · unfold bindsOf; rw [← h5, q1]; rfl
    · have B : bindsOf k1 s1 r1 ((elsOf b1).map absPt) i = if k1 == 6 && i == 0 then [s1, r1] else if k1 == 7 && (decide (0 < i) && decide (i ≤ (elsOf b1).length)) then varsP ((((elsOf b1).map absPt)[i - 1]?).getD default) else [] := by
        unfold bindsOf; rw [← h5, q1, hlen]; rfl
      have seven : (k1 == 6 && i == 0) = false → Br (k1 == 7) (Br (decide (0 < i)) (Br (decide (i ≤ (elsOf b1).length)) (InB (IntKind.i64.wrap ((i : Int) - 1)) (elsOf b1).length ∧
      EvF TT 160 [Dat.nil, getE (elsOf b1) (IntKind.i64.wrap ((i : Int) - 1))] g fun out g' => Outc (fun x => Qf (Out.panic x) g') (fun v => ∃ x, HasTy TT 61 x ∧ RetV v x ∧ ∀ (v : Val), RetV v x → Qf (Out.val v) g') out) (∀ (v : Val), RetV v Dat.nil → Qf (Out.val v) g)) (∀ (v : Val), RetV v Dat.nil → Qf (Out.val v) g)) (∀ (v : Val), RetV v Dat.nil → Qf (Out.val v) g) := by
        intro h6
        rw [h6] at B
        refine Br_iff.2 ⟨fun q2 => Br_iff.2 ⟨fun q3 => Br_iff.2 ⟨fun q4 => L3 (fun x => .inl ?_) (of_decide_eq_true q3) (of_decide_eq_true q4), fun q4 => L0 ?_⟩, fun q3 => L0 ?_⟩, fun q2 => L0 ?_⟩
        · rw [B, q2, q3, q4]; rfl
        · rw [B, q2, q3, q4]; rfl
        · rw [B, q2, q3]; rfl
        · rw [B, q2]; rfl
      refine Br_iff.2 ⟨fun q2 => Br_iff.2 ⟨fun q3 => L2 ?_, fun q3 => seven (by rw [q2, q3]; rfl)⟩, fun q2 => seven (by rw [q2]; rfl)⟩
      rw [B, q2, q3]; rfl
  refine w91 hx ?_
  rw [nat0, nat1]
  show Br (k1 == 3) (Br (i == 0) _ (Br (k1 == 5) (Br (i == 1) _ (Br (k1 == 6) _ _)) (Br (k1 == 6) _ _))) (Br (k1 == 5) (Br (i == 1) _ (Br (k1 == 6) _ _)) (Br (k1 == 6) _ _))
  repeat' (first | refine Br_iff.2 ⟨fun q => ?_, fun q => ?_⟩)
  all_goals (refine key _ ?_; simp_all)
end Go.Proofs.YtgmapdcdmomioaaGreatDoor.Pa
namespace Go.Proofs.YtgmapdcdmomioaaGreatDoor.Pa
open Go Go.Proofs.YtgmapdcdmomioaaGreatDoor.Am
mutual
theorem freeE_len : ∀ (e : Ex') (bd out : List Str), (freeE e bd out).length ≤ out.length + szEx e
  | .mk k s r n a b p, bd, out => by
    have := freeEs_len (bindsOf k s r b) a 0 bd (if k == 1 && (!bd.contains s && !out.contains s) then out ++ [s] else out)
    simp only [freeE, szEx]
    refine Nat.le_trans this ?_
    split
    · simp only [List.length_append, List.length_cons, List.length_nil]; omega
    · omega
theorem freeEs_len : ∀ (bi : Nat → List Str) (l : List Ex') (i : Nat) (bd out : List Str), (freeEs bi l i bd out).length ≤ out.length + szExs l
  | bi, [], i, bd, out => Nat.le_refl _
  | bi, x :: xs, i, bd, out => by
    have h1 := freeE_len x (bd ++ bi i) out
    have h2 := freeEs_len bi xs (i + 1) bd (freeE x (bd ++ bi i) out)
    simp only [freeEs, szExs]
    omega
end
theorem szExs_mem {l : List Ex'} {i : Nat} {x : Ex'} (h : l[i]? = some x) : szEx x ≤ szExs l := by
  induction l generalizing i with
  | nil => simp at h
  | cons y l ih =>
    cases i with
    | zero => simp at h; subst h; simp only [szExs]; omega
    | succ i => have := ih (i := i) (by simpa using h); simp only [szExs]; omega
end Go.Proofs.YtgmapdcdmomioaaGreatDoor.Pa
namespace Go.Proofs.YtgmapdcdmomioaaGreatDoor.Pa
open Go Go.Proofs.YtgmapdcdmomioaaGreatDoor.Am
theorem gnew_len (g : Glob) (ds : List Dat) : (gnew g ds).boxes.length = g.boxes.length + 1 := by simp [gnew]
theorem gnew_get (g : Glob) (ds : List Dat) : (gnew g ds).boxes[g.boxes.length]? = some (.cells (ds.map .d)) := by simp [gnew]
theorem gnew_old {g : Glob} (ds : List Dat) {j : Nat} (h : j < g.boxes.length) : (gnew g ds).boxes[j]? = g.boxes[j]? := by simp only [gnew]; rw [List.getElem?_append_left h]
theorem gmnew_len (g : Glob) : (gmnew g).boxes.length = g.boxes.length + 1 := by simp [gmnew]
theorem gput_one {g : Glob} {i : Nat} {c : GVal} {x : Dat} (hb : g.boxes[i]? = some (.cells [c])) (h1 : x.one = true) : GPut g i 0 1 ∧ gput g i 0 x = { g with boxes := g.boxes.set i (.cells [.d x]) } := by
  refine ⟨⟨_, hb, Nat.le_refl _⟩, ?_⟩
  have hc : x.cells = [x] := by cases x <;> first | rfl | cases h1
  unfold gput
  rw [hb, hc]
  rfl
theorem putAll_same {β : Type} : ∀ (vs cs pre : List β), cs.length = vs.length → putAll (pre ++ cs) pre.length vs = pre ++ vs := fun vs cs pre h => putAll_all pre h
theorem gput_all {g : Glob} {i n : Nat} {cs : List GVal} {ds : List Dat} (hb : g.boxes[i]? = some (.cells cs)) (hn : cs.length = n) (hd : ds.length = n) : GPut g i 0 n ∧ gput g i 0 (.agg ds) = { g with boxes := g.boxes.set i (.cells (ds.map .d)) } := by
  refine ⟨⟨_, hb, by omega⟩, ?_⟩
  unfold gput
  rw [hb]
  simp only [Dat.cells]
  have := putAll_same (ds.map GVal.d) cs [] (by rw [List.length_map, hd, hn])
  simp only [List.nil_append, List.length_nil] at this
  rw [this]
theorem gput_new {g : Glob} {z ds : List Dat} {n : Nat} (hz : z.length = n) (hd : ds.length = n) : GPut (gnew g z) g.boxes.length 0 n ∧ gput (gnew g z) g.boxes.length 0 (.agg ds) = gnew g ds := by
  obtain ⟨a, b⟩ := gput_all (ds := ds) (gnew_get g z) (by rw [List.length_map, hz]) hd
  refine ⟨a, b.trans ?_⟩
  simp [gnew]
theorem gok_agg {g : Glob} {i n : Nat} {ds : List Dat} {t : TypeId} {d : TypeDesc} (hu : TT.und t = some d) (hs : TT.size t = some n) (ha : isAggD d = true) (hb : g.boxes[i]? = some (.cells (ds.map .d))) (hn : ds.length = n) : GOk TT t g i 0 (.agg ds) := by
  refine ⟨.d (.agg ds), ?_, rfl, rfl⟩
  have hm : optAll ((ds.map GVal.d).map fun x => Val.isD x.v) = some ds := by
    rw [List.map_map]
    have : ((fun x => Val.isD x.v) ∘ GVal.d) = (some : Dat → Option Dat) := rfl
    rw [this]
    clear hb hn
    induction ds with
    | nil => rfl
    | cons x ds ih => simp only [List.map_cons, optAll, ih]
  simp only [gload, hb, loadV, hu, hs, ha, if_true, List.drop_zero, List.length_map]
  rw [if_pos (by omega), List.take_of_length_le (by simp; omega)]
  unfold mkAgg
  rw [List.map_map]
  have e : (Val.isD ∘ GVal.v) = fun x : GVal => Val.isD x.v := rfl
  rw [e, hm]
structure Kp (bx : List Nat) (b : Nat) (g g' : Glob) : Prop where
  len : g.boxes.length ≤ g'.boxes.length
  box : ∀ j, j < g.boxes.length → j ∉ bx → g'.boxes[j]? = g.boxes[j]?
  tlen : g.toks.length ≤ g'.toks.length
  tok : ∀ j, j < b → g'.toks[j]? = g.toks[j]?
theorem Kp.refl (bx : List Nat) (b : Nat) (g : Glob) : Kp bx b g g := ⟨Nat.le_refl _, fun _ _ _ => rfl, Nat.le_refl _, fun _ _ => rfl⟩
theorem Kp.trans {bx : List Nat} {b : Nat} {g g' g'' : Glob} (h : Kp bx b g g') (k : Kp bx b g' g'') : Kp bx b g g'' :=
  ⟨Nat.le_trans h.len k.len, fun j hj hx => (k.box j (Nat.lt_of_lt_of_le hj h.len) hx).trans (h.box j hj hx), Nat.le_trans h.tlen k.tlen, fun j hj => (k.tok j hj).trans (h.tok j hj)⟩
theorem Kp.le {bx bx' : List Nat} {b b' : Nat} {g g' : Glob} (h : Kp bx b g g') (hx : ∀ j ∈ bx, j ∈ bx') (hb : b' ≤ b) : Kp bx' b' g g' :=
  ⟨h.len, fun j hj hn => h.box j hj fun q => hn (hx j q), h.tlen, fun j hj => h.tok j (Nat.lt_of_lt_of_le hj hb)⟩
theorem KeepT.kp {b : Nat} {g g' : Glob} (h : KeepT b g g') : Kp [] b g g' := ⟨by rw [h.boxes]; exact Nat.le_refl _, fun j _ _ => by rw [h.boxes], h.len, h.old⟩
theorem boxKp {i : Nat} {g g' : Glob} (h : OneBox i g g') (b : Nat) : Kp [i] b g g' := ⟨by rw [h.len]; exact Nat.le_refl _, fun j _ hn => h.get (by simpa using hn), by rw [h.toks]; exact Nat.le_refl _, fun j _ => by rw [h.toks]⟩
theorem kp_gnew (g : Glob) (ds : List Dat) (b : Nat) : Kp [] b g (gnew g ds) := ⟨by rw [gnew_len]; omega, fun j hj _ => gnew_old ds hj, Nat.le_refl _, fun _ _ => rfl⟩
theorem Gr.kp {b : Nat} {g g' : Glob} {x : Dat} {l : List Str} {bx : List Nat} (h : Gr b g x l) (hk : Kp bx g.toks.length g g') : Gr b g' x l := by
  rcases h with h | ⟨k, h1, h2, h3⟩
  · exact .inl h
  · exact .inr ⟨k, h1, h2, by rw [hk.tok k (List.getElem?_eq_some_iff.1 h3).1]; exact h3⟩
structure FEnv where
  ps : Nat
  p0 : Nat
  mb : Nat
  pm : Nat
  mm : Nat
  po : Nat
  pl : Nat
  D : Dat
  b : Nat
def FEnv.caps (V : FEnv) : List Dat := [.ptr (some (V.ps, 0)), .ptr (some (V.pm, 0)), .ptr (some (V.po, 0)), .ptr (some (V.pl, 0))]
structure FEnv.Ok (V : FEnv) : Prop where
  nd : [V.ps, V.p0, V.mb, V.pm, V.mm, V.po, V.pl].Pairwise (· ≠ ·)
def FEnv.bx (V : FEnv) : List Nat := [V.mb, V.mm, V.po]
structure FFix (V : FEnv) (g : Glob) : Prop where
  s : g.boxes[V.ps]? = some (.cells [.d (.ptr (some (V.p0, 0)))])
  z : ScBox g V.p0 V.mb V.D
  m : g.boxes[V.pm]? = some (.cells [.d (.map (some V.mm))])
  l : g.boxes[V.pl]? = some (.cells [.d (.clo 89 V.caps)])
structure FSt (V : FEnv) (g : Glob) (c : Str → Nat) (out : List Str) (K : Nat) : Prop where
  fix : FFix V g
  bnd : MapIs true g V.mb (cntF c)
  met : ∃ m, MapIs true g V.mm (cntF m) ∧ (∀ s, 0 < m s ↔ s ∈ out) ∧ ∀ s, m s ≤ K
  res : ∃ X, g.boxes[V.po]? = some (.cells [.d X]) ∧ Gr V.b g X out
  tb : V.b ≤ g.toks.length
  strs : ∀ s ∈ out, s.length ≤ 2 ^ 40
  len : out.length ≤ K
theorem FFix.kp {V : FEnv} {g g' : Glob} (hV : V.Ok) (h : FFix V g) (hk : Kp V.bx V.b g g') : FFix V g' := by
  have hn := hV.nd
  simp only [List.pairwise_cons, List.mem_cons, List.not_mem_nil, or_false, forall_eq_or_imp, forall_eq] at hn
  have key : ∀ j, (∃ bx, g.boxes[j]? = some bx) → j ∉ V.bx → g'.boxes[j]? = g.boxes[j]? := fun j ⟨bx, hj⟩ hx => hk.box j (List.getElem?_eq_some_iff.1 hj).1 hx
  have nm : ∀ {j}, j ≠ V.mb → j ≠ V.mm → j ≠ V.po → j ∉ V.bx := fun h1 h2 h3 => by simp [FEnv.bx, h1, h2, h3]
  refine ⟨?_, ?_, ?_, ?_⟩
  · rw [key _ ⟨_, h.s⟩ (nm (by grind) (by grind) (by grind))]; exact h.s
  · exact (key _ ⟨_, h.z⟩ (nm (by grind) (by grind) (by grind))).trans h.z
  · rw [key _ ⟨_, h.m⟩ (nm (by grind) (by grind) (by grind))]; exact h.m
  · rw [key _ ⟨_, h.l⟩ (nm (by grind) (by grind) (by grind))]; exact h.l
theorem FEnv.Ok.ne {V : FEnv} (hV : V.Ok) : V.mb ≠ V.mm ∧ V.mb ≠ V.po ∧ V.mm ≠ V.po ∧ V.pm ≠ V.mb ∧ V.pm ≠ V.mm ∧ V.pm ≠ V.po ∧ V.ps ≠ V.mb ∧ V.ps ≠ V.mm ∧ V.ps ≠ V.po := by
  have hn := hV.nd
  simp only [List.pairwise_cons, List.mem_cons, List.not_mem_nil, or_false, forall_eq_or_imp, forall_eq] at hn
  grind
theorem FSt.kp {V : FEnv} {g g' : Glob} {c : Str → Nat} {out : List Str} {K : Nat} (hV : V.Ok) (h : FSt V g c out K) (hk : Kp [] g.toks.length g g') : FSt V g' c out K := by
  have key : ∀ j, (∃ bx, g.boxes[j]? = some bx) → g'.boxes[j]? = g.boxes[j]? := fun j ⟨bx, hj⟩ => hk.box j (List.getElem?_eq_some_iff.1 hj).1 (by simp)
  have km : ∀ {j F}, MapIs true g j F → MapIs true g' j F := fun hm => hm.other (key _ (let ⟨es, c, h1, _⟩ := hm; ⟨_, h1⟩)) (j := 0)
  obtain ⟨m, m1, m2, m3⟩ := h.met
  obtain ⟨X, x1, x2⟩ := h.res
  exact ⟨h.fix.kp hV (hk.le (fun j hj => by cases hj) h.tb), km h.bnd, ⟨m, km m1, m2, m3⟩, ⟨X, (key _ ⟨_, x1⟩).trans x1, x2.kp hk⟩, Nat.le_trans h.tb hk.tlen, h.strs, h.len⟩
theorem FSt.bound {V : FEnv} {g g' : Glob} {c c' : Str → Nat} {out : List Str} {K : Nat} (hV : V.Ok) (h : FSt V g c out K) (ho : OneBox V.mb g g') (hm : MapIs true g' V.mb (cntF c')) : FSt V g' c' out K := by
  obtain ⟨n1, n2, n3, _⟩ := hV.ne
  obtain ⟨m, m1, m2, m3⟩ := h.met
  obtain ⟨X, x1, x2⟩ := h.res
  exact ⟨h.fix.kp hV ((boxKp ho V.b).le (fun j hj => by simp at hj; simp [FEnv.bx, hj]) (Nat.le_refl _)), hm, ⟨m, m1.other (ho.get (fun e => n1 e.symm)) (j := 0), m2, m3⟩, ⟨X, (ho.get (fun e => n2 e.symm)).trans x1, x2.toks ho.toks⟩, by rw [ho.toks]; exact h.tb, h.strs, h.len⟩
theorem FSt.more {V : FEnv} {g : Glob} {c : Str → Nat} {out : List Str} {K K' : Nat} (h : FSt V g c out K) (hK : K ≤ K') : FSt V g c out K' := by
  obtain ⟨m, m1, m2, m3⟩ := h.met
  exact ⟨h.fix, h.bnd, ⟨m, m1, m2, fun s => Nat.le_trans (m3 s) hK⟩, h.res, h.tb, h.strs, Nat.le_trans h.len hK⟩
theorem undSp : TT.und 107 = some (.pointer 110) := by kernel_rfl
theorem sizeSp : TT.size 107 = some 1 := by kernel_rfl
theorem isF_und {t : TypeId} (h : isF (TT.und t) = true) : ∃ d, TT.und t = some d ∧ isAggD d = false := by
  cases hd : TT.und t with
  | none => rw [hd] at h; cases h
  | some d => rw [hd] at h; cases d <;> first | exact ⟨_, rfl, rfl⟩ | cases h
theorem isAgg_und {t : TypeId} (h : isAgg? (TT.und t) = true) : ∃ d, TT.und t = some d ∧ isAggD d = true := by
  cases hd : TT.und t with
  | none => rw [hd] at h; cases h
  | some d => rw [hd] at h; cases d <;> first | exact ⟨_, rfl, rfl⟩ | cases h
theorem undFe : ∃ d, TT.und 111 = some d ∧ isAggD d = false := isF_und (by kernel_rfl)
theorem sizeFe : TT.size 111 = some 1 := by kernel_rfl
theorem sizeStrs : TT.size 61 = some 1 := by kernel_rfl
theorem undExpr : ∃ d, TT.und 27 = some d ∧ isAggD d = true := isAgg_und (by kernel_rfl)
theorem gloadD {g : Glob} {i o n : Nat} {cs : List GVal} {x : Dat} {t : TypeId} {d : TypeDesc} (hu : TT.und t = some d) (hs : TT.size t = some n) (ha : isAggD d = false) (hb : g.boxes[i]? = some (.cells cs)) (hc : cs[o]? = some (.d x)) : gload TT t g i o = some (.d x) := by
  simp only [gload, hb, loadV, hu, hs, ha, Bool.false_eq_true, if_false, List.head?_map, List.head?_drop, hc]
  rfl
theorem FFix.ptr {V : FEnv} {g : Glob} (h : FFix V g) : GOk TT 107 g V.ps 0 (.ptr (some (V.p0, 0))) := gokD undSp sizeSp rfl h.s rfl
theorem FFix.same {V : FEnv} {g g' : Glob} (h : FFix V g) (h' : FFix V g') : GSame TT 107 V.ps 0 g g' := ⟨_, _, gloadD undSp sizeSp rfl h.s rfl, gloadD undSp sizeSp rfl h'.s rfl, by simp [Val.same, Dat.beq]⟩
theorem FFix.mmap {V : FEnv} {g : Glob} (h : FFix V g) : GOk TT 108 g V.pm 0 (.map (some V.mm)) := gokD undMap sizeMap rfl h.m rfl
def cB (bd : List Str) : Str → Nat := fun s => bd.count s
theorem cB_app (bd l : List Str) : addL (cB bd) l = cB (bd ++ l) := by funext s; simp [addL, cB, List.count_append]
theorem cB_le (bd : List Str) (s : Str) : cB bd s ≤ bd.length := List.count_le_length
theorem cB_zero (bd : List Str) (s : Str) : (((cB bd s : Nat) : Int) == 0) = !bd.contains s := by
  rw [Bool.eq_iff_iff]
  simp only [beq_iff_eq, Bool.not_eq_true', cB]
  constructor
  · intro h
    have h : bd.count s = 0 := by omega
    rw [← Bool.not_eq_true, List.contains_iff_mem]
    exact List.count_eq_zero.1 h
  · intro h
    have : s ∉ bd := by rw [← List.contains_iff_mem, h]; simp
    rw [List.count_eq_zero.2 this]
    rfl
theorem look_ok : ∀ (n : Nat) {V : FEnv} {x : Dat} {g : Glob} {bd out : List Str} {K : Nat} {Qf : Out → Glob → Prop}, V.Ok → SizeOf.sizeOf x < n → HasTy TT 27 x → FSt V g (cB bd) out K →
    bd.length + 2 * szEx (absEx x) ≤ 2 ^ 28 → K + szEx (absEx x) ≤ 2 ^ 28 →
    (∀ g', FSt V g' (cB bd) (freeE (absEx x) bd out) (K + szEx (absEx x)) → Kp V.bx V.b g g' → Qf (.val (.tuple [])) g') → EvF TT 89 (x :: V.caps) g Qf
  | 0, V, x, g, bd, out, K, Qf, hV, hsz, _, _, _, _, _ => by omega
  | n + 1, V, x, g, bd, out, K, Qf, hV, hsz, hx, hst, hn, hm, hQ => by
    obtain ⟨k1, s1, r1, v1, a1, b1, p1, rfl, hs1, hr1, t1, u1⟩ := expr_ty hx
    have ex := t1.els undExprs
    have exl := ex.1.1
    have eu := u1.els undPats
    have hc := sizeOf_cell (cs := [.int .i64 k1, .str s1, .str r1, .int .i64 v1, a1, b1, .int .i64 p1]) (c := a1) (by simp)
    have e1 : ∀ bd out, freeE (absEx (.agg [.int .i64 k1, .str s1, .str r1, .int .i64 v1, a1, b1, .int .i64 p1])) bd out = freeEs (bindsOf k1 s1 r1 ((elsOf b1).map absPt)) (((elsOf a1).drop 0).map absEx) 0 bd (if k1 == 1 && (!bd.contains s1 && !out.contains s1) then out ++ [s1] else out) := fun bd out => by
      simp only [absEx, freeE, absPtA_map, absExA_map, List.drop_zero]
    have e2 : szEx (absEx (.agg [.int .i64 k1, .str s1, .str r1, .int .i64 v1, a1, b1, .int .i64 p1])) = 1 + szPts ((elsOf b1).map absPt) + szExs (((elsOf a1).drop 0).map absEx) := by simp only [absEx, szEx, absPtA_map, absExA_map, List.drop_zero]
    rw [e1, e2] at hQ
    rw [e2] at hn hm
    obtain ⟨w1, w2, w3, w4, w5, w6, w7, w8, w9⟩ := hV.ne
    have loop : ∀ (i : Nat), i ≤ (elsOf a1).length → ∀ {out : List Str} {g0 : Glob} {K : Nat}, FSt V g0 (cB bd) out K → K + szExs (((elsOf a1).drop i).map absEx) ≤ 2 ^ 28 →
        (∀ g', FSt V g' (cB bd) (freeEs (bindsOf k1 s1 r1 ((elsOf b1).map absPt)) (((elsOf a1).drop i).map absEx) i bd out) (K + szExs (((elsOf a1).drop i).map absEx)) → Kp V.bx V.b g0 g' → Qf (.val (.tuple [])) g') →
        L89_6 V.ps V.pl a1 ((elsOf a1).length : Int) (i : Int) (.agg [.int .i64 k1, .str s1, .str r1, .int .i64 v1, a1, b1, .int .i64 p1]) g0 Qf := by
      refine loopUp (len := (elsOf a1).length) _ ?_ ?_
      · intro out g0 K hst hn hQ
        refine w89_6 ?_
        rw [Br_ge]
        rw [List.drop_length] at hQ
        exact hQ g0 hst (Kp.refl _ _ _)
      · intro i hi ih out g0 K hst hn' hQ
        rw [List.drop_eq_getElem_cons hi] at hn'
        rw [freeEs_drop _ hi] at hQ
        have hsplit : szExs (((elsOf a1).drop i).map absEx) = szEx (absEx (elsOf a1)[i]) + szExs (((elsOf a1).drop (i + 1)).map absEx) := szExs_drop hi
        rw [hsplit] at hQ
        simp only [List.map_cons, szExs] at hn'
        have hmem : szEx (absEx (elsOf a1)[i]) ≤ szExs (((elsOf a1).drop 0).map absEx) := szExs_mem (i := i) (by rw [List.drop_zero, List.getElem?_map, List.getElem?_eq_getElem hi]; rfl)
        have hbl := bindsOf_len k1 s1 r1 ((elsOf b1).map absPt) i
        have h1 := sizeOf_el hi
        have htx := ex.2 _ (List.getElem_mem hi)
        refine w89_6 ?_
        rw [Br_lt hi, getE_nat hi]
        refine ⟨inB hi, ?_⟩
        obtain ⟨ds, hds, hd7⟩ : ∃ ds, (elsOf a1)[i] = .agg ds ∧ ds.length = 7 := by
          obtain ⟨k', s', r', n', a', b', p', e, _⟩ := expr_ty htx
          exact ⟨_, e, rfl⟩
        rw [hds] at h1 hQ hmem htx hn' ⊢
        obtain ⟨g1a, g1b⟩ := gput_new (g := g0) (z := [Dat.int IntKind.i64 0, Dat.str [], Dat.str [], Dat.int IntKind.i64 0, Dat.nil, Dat.nil, Dat.int IntKind.i64 0]) (ds := ds) rfl hd7
        rw [g1b]
        have kg1 := kp_gnew g0 ds g0.toks.length
        have st1 := hst.kp hV kg1
        refine ⟨g1a, V.p0, 0, st1.fix.ptr, binds_ok hx (by omega) (by omega) fun v z g2 hv hz ez hk2 => ?_⟩
        have st2 := st1.kp hV (hk2.kp.le (fun j hj => hj) (Nat.le_refl _))
        refine ⟨z, hz, hv, st1.fix.same st2.fix, ?_⟩
        have hbc : ∀ s, cB bd s + (bindsOf k1 s1 r1 ((elsOf b1).map absPt) i).length ≤ 2 ^ 60 := fun s => by
          have := cB_le bd s
          omega
        refine with_ok hz ez hbc st2.fix.z st2.bnd fun g3 ho3 hm3 => ?_
        rw [cB_app] at hm3 ⊢
        have st3 := st2.bound hV ho3 hm3
        have hbx : g3.boxes[g0.boxes.length]? = some (.cells (ds.map .d)) := by
          have hlt : V.mb < g0.boxes.length := hst.bnd.lt
          rw [ho3.get (by omega), hk2.boxes]
          exact gnew_get g0 ds
        obtain ⟨fd, hfe, hfa⟩ := undFe
        obtain ⟨ed, hfs, hea⟩ := undExpr
        refine w92 ⟨_, _, gokD hfe sizeFe hfa st3.fix.l rfl, .agg ds, htx, gok_agg hfs szExpr hea hbx hd7, ?_⟩
        refine look_ok n hV (by omega) htx st3 (by rw [List.length_append]; omega) (by omega) fun g4 st4 k4 => ⟨trivial, ?_⟩
        refine ⟨trivial, st4.fix.z, st4.bnd, fun g5 ho5 hm5 => ⟨trivial, ?_⟩⟩
        have st5 := st4.bound hV ho5 hm5
        rw [wrap_nat (by omega)]
        refine ih st5 (by omega) fun g6 st6 k6 => hQ g6 ?_ ?_
        · rw [Nat.add_assoc] at st6
          exact st6
        · have sub1 : ∀ j, j ∈ [V.mb] → j ∈ V.bx := fun j hj => by simp at hj; simp [FEnv.bx, hj]
          have a1 : Kp V.bx V.b g0 (gnew g0 ds) := kg1.le (fun j hj => by cases hj) hst.tb
          have a2 : Kp V.bx V.b (gnew g0 ds) g2 := hk2.kp.le (fun j hj => by cases hj) st1.tb
          have a3 : Kp V.bx V.b g2 g3 := (boxKp ho3 V.b).le sub1 (Nat.le_refl _)
          have a5 : Kp V.bx V.b g4 g5 := (boxKp ho5 V.b).le sub1 (Nat.le_refl _)
          exact ((((a1.trans a2).trans a3).trans k4).trans a5).trans k6
    have fin : ∀ {g1 : Glob} {o : List Str}, FSt V g1 (cB bd) o (K + 1) → Kp V.bx V.b g g1 → o = (if k1 == 1 && (!bd.contains s1 && !out.contains s1) then out ++ [s1] else out) → L89_6 V.ps V.pl a1 ((elsOf a1).length : Int) 0 (.agg [.int .i64 k1, .str s1, .str r1, .int .i64 v1, a1, b1, .int .i64 p1]) g1 Qf := by
      intro g1 o st1 kk eo
      refine loop 0 (Nat.zero_le _) st1 (by omega) fun g' st' k' => hQ g' ?_ (kk.trans k')
      rw [← eo]
      exact st'.more (by omega)
    refine w89 hx ?_
    show Br (k1 == 1) _ _
    refine Br_iff.2 ⟨fun q => ?_, fun q => fin (hst.more (by omega)) (Kp.refl _ _ _) (by rw [q]; rfl)⟩
    have hl1 := hst.bnd.mlook (z := .int .i64 0) (strKey s1)
    rw [cntF_get] at hl1
    refine ⟨V.p0, 0, hst.fix.ptr, V.mb, hst.fix.z.map, _, _, hl1, ?_⟩
    rw [cB_zero]
    refine Br_iff.2 ⟨fun q2 => ?_, fun q2 => fin (hst.more (by omega)) (Kp.refl _ _ _) (by rw [q, q2]; rfl)⟩
    obtain ⟨m, m1, m2, m3⟩ := hst.met
    have hmK := m3 s1
    obtain ⟨hl2, g1, h3, ho1, hm1⟩ := map_inc m1 s1 (by omega)
    obtain ⟨X, x1, x2⟩ := hst.res
    have hl4 := hm1.mlook (z := .int .i64 0) (strKey s1)
    rw [cntF_get] at hl4
    have kp1 : Kp V.bx V.b g g1 := (boxKp ho1 V.b).le (fun j hj => by simp at hj; simp [FEnv.bx, hj]) (Nat.le_refl _)
    have fix1 := hst.fix.kp hV kp1
    have hm2 : ∀ s, addL m [s1] s = m s + (if s = s1 then 1 else 0) := fun s => by
      unfold addL
      rw [List.count_cons, List.count_nil]
      by_cases hs : s = s1
      · subst hs; simp
      · have : (s1 == s) = false := by simpa using fun e => hs e.symm
        simp [hs, this]
    have x1' : g1.boxes[V.po]? = some (.cells [.d X]) := (ho1.get (fun e => w3 e.symm)).trans x1
    have bnd1 : MapIs true g1 V.mb (cntF (cB bd)) := hst.bnd.other (ho1.get w1) (j := 0)
    refine ⟨V.mm, hst.fix.mmap, _, _, hl2, g1, h3, V.mm, fix1.mmap, _, _, hl4, ?_⟩
    have hcnt : (((addL m [s1] s1 : Nat) : Int) == 1) = !out.contains s1 := by
      rw [hm2, if_pos rfl, Bool.eq_iff_iff]
      simp only [beq_iff_eq, Bool.not_eq_true']
      constructor
      · intro h
        have h0 : ¬ 0 < m s1 := by omega
        rw [m2] at h0
        rw [← Bool.not_eq_true, List.contains_iff_mem]
        exact h0
      · intro h
        have h0 : s1 ∉ out := by rw [← List.contains_iff_mem, h]; simp
        rw [← m2] at h0
        omega
    rw [hcnt]
    refine Br_iff.2 ⟨fun q3 => ?_, fun q3 => ?_⟩
    · have gr1 := x2.toks (g' := g1) ho1.toks
      obtain ⟨r, g2, r1', r2, r3⟩ := gr1.app (by rw [ho1.toks]; exact hst.tb) s1
      have x2' : g2.boxes[V.po]? = some (.cells [.d X]) := by rw [r3.boxes]; exact x1'
      have hr : r.one = true := by rcases r2 with ⟨rfl, h⟩ | ⟨kk, rfl, _⟩ <;> rfl
      obtain ⟨p1', p2⟩ := gput_one x2' hr
      have hlen := hst.len
      refine ⟨X, x2.ty (by omega) hst.strs, gokD undStrs sizeStrs rfl x1' rfl, fitS' (by rw [elsLen x2.els]; simp only [List.length_cons, List.length_nil]; omega), r, g2, r1', p1', ?_⟩
      rw [p2]
      have kp2 : Kp V.bx V.b g g2 := kp1.trans (r3.kp.le (fun j hj => by cases hj) (Nat.le_refl _))
      have ho3 : OneBox V.po g2 { g2 with boxes := g2.boxes.set V.po (.cells [.d r]) } := ⟨_, rfl⟩
      have kp3 : Kp V.bx V.b g { g2 with boxes := g2.boxes.set V.po (.cells [.d r]) } := kp2.trans ((boxKp ho3 V.b).le (fun j hj => by simp at hj; simp [FEnv.bx, hj]) (Nat.le_refl _))
      have mk : ∀ {j F}, MapIs true g1 j F → j ≠ V.po → MapIs true { g2 with boxes := g2.boxes.set V.po (.cells [.d r]) } j F := fun hm hj => hm.other ((ho3.get hj).trans (by rw [r3.boxes])) (j := 0)
      refine fin (o := out ++ [s1]) ⟨hst.fix.kp hV kp3, mk bnd1 w2, ⟨_, mk hm1 w3, fun s => ?_, fun s => ?_⟩, ⟨r, ?_, r2.toks rfl⟩, ?_, fun s hs => ?_, ?_⟩ kp3 (by rw [q, q2, q3]; rfl)
      · rw [hm2, List.mem_append, List.mem_singleton, ← m2]
        split
        · rename_i e; subst e; simp
        · rename_i e; simp [e]
      · rw [hm2]; have := m3 s; split <;> omega
      · simp only
        rw [List.getElem?_set_self (List.getElem?_eq_some_iff.1 x2').1]
      · exact Nat.le_trans (by rw [ho1.toks]; exact hst.tb) r3.len
      · rcases List.mem_append.1 hs with h | h
        · exact hst.strs s h
        · rw [List.mem_singleton] at h; subst h; exact hs1
      · rw [List.length_append]; simp only [List.length_cons, List.length_nil]; omega
    · have hin : s1 ∈ out := by
        have : out.contains s1 = true := by simpa using q3
        exact List.contains_iff_mem.1 this
      refine fin ⟨fix1, bnd1, ⟨_, hm1, fun s => ?_, fun s => ?_⟩, ⟨X, x1', x2.toks ho1.toks⟩, by rw [ho1.toks]; exact hst.tb, hst.strs, Nat.le_succ_of_le hst.len⟩ kp1 (by rw [q, q2, q3]; rfl)
      · rw [hm2, ← m2]
        split
        · rename_i e; subst e; have := (m2 s).2 hin; omega
        · omega
      · rw [hm2]; have := m3 s; split <;> omega
end Go.Proofs.YtgmapdcdmomioaaGreatDoor.Pa
namespace Go.Proofs.YtgmapdcdmomioaaGreatDoor.Pa
open Go Go.Proofs.YtgmapdcdmomioaaGreatDoor.Am
theorem gput_new1 {g : Glob} {c x : Dat} (h1 : x.one = true) : GPut (gnew g [c]) g.boxes.length 0 1 ∧ gput (gnew g [c]) g.boxes.length 0 x = gnew g [x] := by
  obtain ⟨a, b⟩ := gput_one (gnew_get g [c]) h1
  exact ⟨a, b.trans (by simp [gnew])⟩
theorem scopeFree_ok {x : Dat} {g : Glob} {Qf : Out → Glob → Prop} (hx : HasTy TT 27 x) (hz : szEx (absEx x) ≤ 2 ^ 26) (hQ : ∀ X v g', HasTy TT 61 X → elsOf X = (freeE (absEx x) [] []).map .str → RetV v X → Qf (.val v) g') : EvF TT 40 [x] g Qf := by
  refine w40 hx (w40_1 ?_)
  obtain ⟨a1, a2⟩ := gput_new1 (g := gnew (gmnew g) [Dat.nil, Dat.map (some g.boxes.length)]) (c := Dat.ptr none) (x := Dat.ptr (some ((gmnew g).boxes.length, 0))) rfl
  rw [a2]
  refine ⟨a1, w40_2 (w40_3 ?_)⟩
  generalize hg2 : gnew (gnew (gmnew g) [Dat.nil, Dat.map (some g.boxes.length)]) [Dat.ptr (some ((gmnew g).boxes.length, 0))] = g2
  obtain ⟨b1, b2⟩ := gput_new1 (g := gmnew (gnew g2 [Dat.nil])) (c := Dat.map none) (x := Dat.map (some (gnew g2 [Dat.nil]).boxes.length)) rfl
  rw [b2]
  refine ⟨b1, w40_4 (w40_5 ?_)⟩
  generalize hg5 : gnew (gmnew (gnew g2 [Dat.nil])) [Dat.map (some (gnew g2 [Dat.nil]).boxes.length)] = g5
  generalize hV : (⟨(gnew (gmnew g) [Dat.nil, Dat.map (some g.boxes.length)]).boxes.length, (gmnew g).boxes.length, g.boxes.length, (gmnew (gnew g2 [Dat.nil])).boxes.length, (gnew g2 [Dat.nil]).boxes.length, g2.boxes.length, g5.boxes.length, .nil, g.toks.length⟩ : FEnv) = V
  obtain ⟨c1, c2⟩ := gput_new1 (g := g5) (c := Dat.nilFn) (x := Dat.clo 89 V.caps) rfl
  have hcaps : [Dat.ptr (some ((gnew (gmnew g) [Dat.nil, Dat.map (some g.boxes.length)]).boxes.length, 0)), Dat.ptr (some ((gmnew (gnew g2 [Dat.nil])).boxes.length, 0)), Dat.ptr (some (g2.boxes.length, 0)), Dat.ptr (some (g5.boxes.length, 0))] = V.caps := by rw [← hV]; rfl
  rw [hcaps, c2]
  refine ⟨c1, w40_6 ?_⟩
  have hb : (gnew g5 [Dat.clo 89 V.caps]).boxes = g.boxes ++ [.map [] 0, .cells [.d .nil, .d (.map (some g.boxes.length))], .cells [.d (.ptr (some (g.boxes.length + 1, 0)))], .cells [.d .nil], .map [] 0, .cells [.d (.map (some (g.boxes.length + 4)))], .cells [.d (.clo 89 V.caps)]] := by
    subst hg5 hg2
    simp [gnew, gmnew, List.append_assoc]
  have ht : (gnew g5 [Dat.clo 89 V.caps]).toks = g.toks := by
    subst hg5 hg2
    rfl
  have l2 : g2.boxes.length = g.boxes.length + 3 := by subst hg2; simp [gnew, gmnew]
  have l5 : g5.boxes.length = g.boxes.length + 6 := by subst hg5; simp [gnew, gmnew, l2]
  have eV : V = ⟨g.boxes.length + 2, g.boxes.length + 1, g.boxes.length, g.boxes.length + 5, g.boxes.length + 4, g.boxes.length + 3, g.boxes.length + 6, .nil, g.toks.length⟩ := by
    rw [← hV]
    simp only [gnew_len, gmnew_len, l2, l5]
  have hVok : V.Ok := by
    rw [eV]
    exact ⟨by simp⟩
  have at_ : ∀ j, (gnew g5 [Dat.clo 89 V.caps]).boxes[g.boxes.length + j]? = ([.map [] 0, .cells [.d .nil, .d (.map (some g.boxes.length))], .cells [.d (.ptr (some (g.boxes.length + 1, 0)))], .cells [.d .nil], .map [] 0, .cells [.d (.map (some (g.boxes.length + 4)))], .cells [.d (.clo 89 V.caps)]] : List GBox)[j]? := fun j => by
    rw [hb, List.getElem?_append_right (by omega), Nat.add_sub_cancel_left]
  have h2 : V.ps = g.boxes.length + 2 := by rw [eV]
  have h1 : V.p0 = g.boxes.length + 1 := by rw [eV]
  have h0 : V.mb = g.boxes.length := by rw [eV]
  have h5 : V.pm = g.boxes.length + 5 := by rw [eV]
  have h4 : V.mm = g.boxes.length + 4 := by rw [eV]
  have h3 : V.po = g.boxes.length + 3 := by rw [eV]
  have h6 : V.pl = g.boxes.length + 6 := by rw [eV]
  have hD : V.D = .nil := by rw [eV]
  have hB : V.b = g.toks.length := by rw [eV]
  have empty : EsIs true [] 0 (cntF (cB [])) := ⟨(fun e h => by cases h), (fun e h => by cases h), List.Pairwise.nil, List.Pairwise.nil, fun k x => ⟨fun h => (by cases k <;> simp [cntF, cB] at h), fun ⟨e, h, _⟩ => (by cases h)⟩⟩
  have st : FSt V (gnew g5 [Dat.clo 89 V.caps]) (cB []) [] 0 := by
    refine ⟨⟨?_, ?_, ?_, ?_⟩, ⟨[], 0, ?_, empty⟩, ⟨cB [], ⟨[], 0, ?_, empty⟩, fun s => by simp [cB], fun s => by simp [cB]⟩, ⟨.nil, ?_, Gr.nil _ _⟩, ?_, (fun s h => by cases h), Nat.le_refl _⟩
    · rw [h2, h1, at_]; rfl
    · unfold ScBox; rw [h1, h0, hD, at_]; rfl
    · rw [h5, h4, at_]; rfl
    · rw [h6, at_]; rfl
    · rw [h0]; exact at_ 0
    · rw [h4, at_]; rfl
    · rw [h3, at_]; rfl
    · rw [hB, ht]; exact Nat.le_refl _
  obtain ⟨fd, hfe, hfa⟩ := undFe
  have hpl : g5.boxes.length = V.pl := by rw [h6, l5]
  rw [hpl]
  refine ⟨_, _, gokD hfe sizeFe hfa st.fix.l rfl, look_ok _ hVok (Nat.lt_succ_self _) hx st (by simp only [List.length_nil]; omega) (by omega) fun g' st' hk => ⟨trivial, ?_⟩⟩
  obtain ⟨X, x1, x2⟩ := st'.res
  have hl := freeE_len (absEx x) [] []
  simp only [List.length_nil] at hl
  have hty := x2.ty (by omega) st'.strs
  rw [show g2.boxes.length = V.po from by rw [h3, l2]]
  exact ⟨X, hty, gokD undStrs sizeStrs rfl x1 rfl, fun v hv => hQ X v g' hty x2.els hv⟩
theorem largeExpr_all {x : Dat} {g : Glob} {Qf : Out → Glob → Prop} (hx : HasTy TT 27 x) (hT : Qf (.val (.d (.bool true))) g) (hF : szEx (absEx x) ≤ 20000 → dpEx (absEx x) ≤ 601 → Qf (.val (.d (.bool false))) g) : EvF TT 37 [x] g Qf := by
  refine w37 hx (weighExpr_all _ _ g _ _ (Nat.lt_succ_self _) hx (by omega) (by omega) (by omega) (by omega) _ fun r l0 l1 hr => ⟨_, rfl, ?_⟩)
  by_cases h : r < 0
  · rw [decide_eq_true h]; exact hT
  · rw [decide_eq_false h]
    have := hr (by omega)
    exact hF (by omega) (by omega)
theorem small_ok {x : Dat} {g : Glob} {Qf : Out → Glob → Prop} (hx : HasTy TT 27 x) (hQ : ∀ b : Bool, (b = true → szEx (absEx x) ≤ 1200) → Qf (.val (.d (.bool b))) g) : EvF TT 38 [x] g Qf := by
  obtain ⟨k1, s1, r1, v1, a1, b1, p1, rfl, hs1, hr1, t1, u1⟩ := expr_ty hx
  refine w38 hx (refSize_ok _ g (ty_prog (.nil _ (by rw [undDecls]; rfl)) hx) _ ⟨_, rfl, hQ _ fun h => ?_⟩)
  have h := of_decide_eq_true h
  have e : (absPg (.agg [Dat.nil, .int .i64 k1, .str s1, .str r1, .int .i64 v1, a1, b1, .int .i64 p1])).e = absEx (.agg [.int .i64 k1, .str s1, .str r1, .int .i64 v1, a1, b1, .int .i64 p1]) := rfl
  have h : upto 0 (szEx (absPg (.agg [Dat.nil, .int .i64 k1, .str s1, .str r1, .int .i64 v1, a1, b1, .int .i64 p1])).e) ≤ 1200 := h
  rw [e] at h
  unfold upto at h
  repeat' split at h
  all_goals omega
theorem copy1_ok {x : Dat} {g : Glob} {Qf : Out → Glob → Prop} (hx : HasTy TT 27 x) (hQ : ∀ y, HasTy TT 27 y → absEx y = absEx x → Qf (.val (.uq 7 [y])) g) : EvF TT 41 [.sl 7 [x]] g Qf := by
  refine copyExprs_ok _ _ g (Nat.lt_succ_self _) (one_expr hx) _ fun m hm hmn hma => ?_
  obtain ⟨y, rfl⟩ : ∃ y, m = [y] := by
    match m, hmn with
    | [y], _ => exact ⟨y, rfl⟩
  exact hQ y (hm y (by simp)) (by simpa [elsOf] using hma)
end Go.Proofs.YtgmapdcdmomioaaGreatDoor.Pa
namespace Go.Proofs.YtgmapdcdmomioaaGreatDoor.Pa
open Go Go.Proofs.YtgmapdcdmomioaaGreatDoor.Am
def addAll (l k : List Str) : List Str := k.foldl (fun o s => if o.contains s then o else o ++ [s]) l
theorem addAll_nil (l : List Str) : addAll l [] = l := rfl
theorem addAll_snoc (l k : List Str) (s : Str) : addAll l (k ++ [s]) = if (addAll l k).contains s then addAll l k else addAll l k ++ [s] := by simp [addAll, List.foldl_append]
theorem snoc_ind {α : Type} {P : List α → Prop} (h0 : P []) (h1 : ∀ l a, P l → P (l ++ [a])) (l : List α) : P l := by
  have : ∀ n, ∀ l : List α, l.length = n → P l := by
    intro n
    induction n with
    | zero => intro l h; rw [List.eq_nil_of_length_eq_zero h]; exact h0
    | succ n ih =>
      intro l h
      have hn : l ≠ [] := fun e => by rw [e] at h; cases h
      rw [← List.dropLast_concat_getLast hn]
      exact h1 _ _ (ih _ (by rw [List.length_dropLast, h]; rfl))
  exact this _ l rfl
theorem mem_addAll (l k : List Str) (s : Str) : s ∈ addAll l k ↔ s ∈ l ∨ s ∈ k := by
  refine snoc_ind (P := fun k => s ∈ addAll l k ↔ s ∈ l ∨ s ∈ k) (by simp [addAll]) (fun k a ih => ?_) k
  rw [addAll_snoc]
  split
  · rename_i h
    have h := List.contains_iff_mem.1 h
    rw [ih]
    constructor
    · rintro (q | q)
      · exact .inl q
      · exact .inr (List.mem_append_left _ q)
    · rintro (q | q)
      · exact .inl q
      · rcases List.mem_append.1 q with q | q
        · exact .inr q
        · rw [List.mem_singleton] at q; subst q; exact ih.1 h
  · rw [List.mem_append, ih, List.mem_append, or_assoc]
theorem addAll_len (l k : List Str) : (addAll l k).length ≤ l.length + k.length := by
  refine snoc_ind (P := fun k => (addAll l k).length ≤ l.length + k.length) (Nat.le_refl _) (fun k a ih => ?_) k
  rw [addAll_snoc]
  split <;> simp only [List.length_append, List.length_cons, List.length_nil] <;> omega
theorem free_var_add (s : Str) (c : Bool) (out o : List Str) : (if c && !(addAll out o).contains s then addAll out o ++ [s] else addAll out o) = addAll out (if c && !o.contains s then o ++ [s] else o) := by
  cases c with
  | false => rfl
  | true =>
    simp only [Bool.true_and]
    cases h : o.contains s with
    | true =>
      have : (addAll out o).contains s = true := List.contains_iff_mem.2 ((mem_addAll _ _ _).2 (.inr (List.contains_iff_mem.1 h)))
      rw [this]; rfl
    | false =>
      simp only [Bool.not_false, if_true]
      rw [addAll_snoc]
      cases (addAll out o).contains s <;> rfl
mutual
theorem free_add : ∀ (e : Ex') (bd out o : List Str), freeE e bd (addAll out o) = addAll out (freeE e bd o)
  | .mk k s r n a b p, bd, out, o => by
    simp only [freeE]
    rw [← Bool.and_assoc, ← Bool.and_assoc, free_var_add s (k == 1 && !bd.contains s) out o]
    exact frees_add _ _ _ _ _ _
theorem frees_add : ∀ (bi : Nat → List Str) (l : List Ex') (i : Nat) (bd out o : List Str), freeEs bi l i bd (addAll out o) = addAll out (freeEs bi l i bd o)
  | bi, [], i, bd, out, o => rfl
  | bi, x :: xs, i, bd, out, o => by
    simp only [freeEs]
    rw [free_add x (bd ++ bi i) out o]
    exact frees_add _ _ _ _ _ _
end
theorem free_from (e : Ex') (bd out : List Str) : freeE e bd out = addAll out (freeE e bd []) := by
  have := free_add e bd out []
  rw [addAll_nil] at this
  exact this
def noName (nm : Str) (l : List Str) : List Str := l.filter fun s => !(s == nm)
theorem noName_app (nm : Str) (l k : List Str) : noName nm (l ++ k) = noName nm l ++ noName nm k := List.filter_append ..
theorem noName_contains (nm s : Str) (l : List Str) (h : (s == nm) = false) : (noName nm l).contains s = l.contains s := by
  rw [Bool.eq_iff_iff, List.contains_iff_mem, List.contains_iff_mem, noName, List.mem_filter, h]
  simp
theorem free_var_no (nm s : Str) (c : Bool) (bd o : List Str) : (if c && (!(nm :: bd).contains s && !(noName nm o).contains s) then noName nm o ++ [s] else noName nm o) = noName nm (if c && (!bd.contains s && !o.contains s) then o ++ [s] else o) := by
  cases c with
  | false => rfl
  | true =>
    simp only [Bool.true_and, List.contains_cons]
    cases h : s == nm with
    | true =>
      simp only [Bool.true_or, Bool.not_true, Bool.false_and, Bool.false_eq_true, if_false]
      split
      · rw [noName_app]
        simp [noName, h]
      · rfl
    | false =>
      rw [noName_contains _ _ _ h, Bool.false_or]
      split
      · rw [noName_app]
        simp [noName, h]
      · rfl
mutual
theorem free_no (nm : Str) : ∀ (e : Ex') (bd o : List Str), freeE e (nm :: bd) (noName nm o) = noName nm (freeE e bd o)
  | .mk k s r n a b p, bd, o => by
    simp only [freeE]
    rw [free_var_no]
    exact frees_no nm _ _ _ _ _
theorem frees_no (nm : Str) : ∀ (bi : Nat → List Str) (l : List Ex') (i : Nat) (bd o : List Str), freeEs bi l i (nm :: bd) (noName nm o) = noName nm (freeEs bi l i bd o)
  | bi, [], i, bd, o => rfl
  | bi, x :: xs, i, bd, o => by
    simp only [freeEs, List.cons_append]
    rw [free_no nm x (bd ++ bi i) o]
    exact frees_no nm _ _ _ _ _
end
theorem free_bound (nm : Str) (e : Ex') : freeE e [nm] [] = noName nm (freeE e [] []) := free_no nm e [] []
theorem app_free (a b : Ex') (s r : Str) (n p : Int) : freeE (.mk 4 s r n [a, b] [] p) [] [] = addAll (freeE a [] []) (freeE b [] []) := by
  show freeE b ([] ++ bindsOf 4 s r [] 1) (freeE a ([] ++ bindsOf 4 s r [] 0) []) = _
  have h0 : bindsOf 4 s r [] 0 = [] := rfl
  have h1 : bindsOf 4 s r [] 1 = [] := rfl
  rw [h0, h1, List.append_nil, free_from]
theorem fun_free (a : Ex') (s r : Str) (n p : Int) : freeE (.mk 3 s r n [a] [] p) [] [] = noName s (freeE a [] []) := by
  show freeE a ([] ++ bindsOf 3 s r [] 0) [] = _
  have h0 : bindsOf 3 s r [] 0 = [s] := rfl
  rw [h0, List.nil_append, free_bound]
theorem let_free (a b : Ex') (s r : Str) (n p : Int) : freeE (.mk 5 s r n [a, b] [] p) [] [] = addAll (freeE a [] []) (noName s (freeE b [] [])) := by
  show freeE b ([] ++ bindsOf 5 s r [] 1) (freeE a ([] ++ bindsOf 5 s r [] 0) []) = _
  have h0 : bindsOf 5 s r [] 0 = [] := rfl
  have h1 : bindsOf 5 s r [] 1 = [s] := rfl
  rw [h0, h1, List.append_nil, List.nil_append, free_from, free_bound]
theorem two_exprs {x y : Dat} (hx : HasTy TT 27 x) (hy : HasTy TT 27 y) : HasTy TT 24 (.sl 7 [x, y]) :=
  .sl _ _ _ _ undExprs szExpr ⟨by simp, fun b hb => by rw [byExpr] at hb; cases hb; simp⟩ fun z hz => by
    simp only [List.mem_cons, List.not_mem_nil, or_false] at hz
    rcases hz with rfl | rfl
    · exact hx
    · exact hy
theorem copy2_ok {x z : Dat} {g : Glob} {Qf : Out → Glob → Prop} (hx : HasTy TT 27 x) (hz : HasTy TT 27 z) (hQ : ∀ y w, HasTy TT 27 y → absEx y = absEx x → HasTy TT 27 w → absEx w = absEx z → Qf (.val (.uq 7 [y, w])) g) : EvF TT 41 [.sl 7 [x, z]] g Qf := by
  refine copyExprs_ok _ _ g (Nat.lt_succ_self _) (two_exprs hx hz) _ fun m hm hmn hma => ?_
  obtain ⟨y, w, rfl⟩ : ∃ y w, m = [y, w] := by
    match m, hmn with
    | [y, w], _ => exact ⟨y, w, rfl⟩
  have : absEx y = absEx x ∧ absEx w = absEx z := by simpa [elsOf] using hma
  exact hQ y w (hm y (by simp)) this.1 (hm w (by simp)) this.2
theorem free_strs {x X : Dat} (h : HasTy TT 61 X) {l : List Str} (e : elsOf X = l.map .str) : ∀ s ∈ l, s.length ≤ 2 ^ 40 := by
  obtain ⟨l', e', s, _⟩ := strs_inv h
  rw [← mapStr_inj (e'.symm.trans e)]
  exact s
theorem scopePartsLaw (x y z : Dat) (g : Glob) (hx : HasTy TT 27 x) (hy : HasTy TT 27 y) (hz : HasTy TT 9 z) (hb : StrB x) (hb1 : StrB y) (hb2 : StrB z) (Qf : Out → Glob → Prop) (hQ : ∀ g, Qf (.val (.d (.bool true))) g) : EvF TT 14 [x, y, z] g Qf := by
  have wk : ∀ g, EvF TT 28 [] g fun out g' => Outc (fun x => Qf (Out.panic x) g') (fun v => ∃ b, v = Val.d (Dat.bool b) ∧ Qf (Out.val (Val.d (Dat.bool b))) g') out := fun g => wakes14_ok g _ ⟨_, rfl, hQ g⟩
  obtain ⟨nm, rfl, hnm⟩ := str_ty hz
  refine w14 hx hy hnm (largeExpr_all hx ⟨_, rfl, wk g⟩ fun _ _ => ⟨_, rfl, largeExpr_all hy ⟨_, rfl, wk g⟩ fun _ _ => ⟨_, rfl, ?_⟩⟩)
  refine small_ok hx fun b1 q1 => ⟨_, rfl, Br_iff.2 ⟨fun _ => wk g, fun q => ?_⟩⟩
  have q1 := q1 (by simpa using q)
  refine small_ok hy fun b2 q2 => ⟨_, rfl, Br_iff.2 ⟨fun _ => wk g, fun q' => ?_⟩⟩
  have q2 := q2 (by simpa using q')
  clear q q'
  refine copy1_ok hx fun x1 t1 e1 => ⟨.sl 7 [x1], one_expr t1, rfl, ⟨Int.le_refl _, by simp [elsOf]⟩, ?_⟩
  refine scopeFree_ok (x := x1) t1 (by rw [e1]; omega) fun L v g1 hL eL hv => ⟨L, hL, hv, ?_⟩
  rw [e1] at eL
  refine copy1_ok hy fun y1 t2 e2 => ⟨.sl 7 [y1], one_expr t2, rfl, ⟨Int.le_refl _, by simp [elsOf]⟩, ?_⟩
  refine scopeFree_ok (x := y1) t2 (by rw [e2]; omega) fun K v g2 hK eK hv => ⟨K, hK, hv, ?_⟩
  rw [e2] at eK
  have nilP : HasTy TT 25 .nil := .nil _ (by rw [undPats]; rfl)
  refine copy2_ok hx hy fun x2 y2 t3 e3 t4 e4 => ⟨.sl 7 [x2, y2], two_exprs t3 t4, rfl, ?_⟩
  have abs2 : ∀ (k : Int) (s : Str), absEx (.agg [.int .i64 k, .str s, .str [], .int .i64 0, .sl 7 [x2, y2], .nil, .int .i64 0]) = .mk k s [] 0 [absEx x, absEx y] [] 0 := fun k s => by simp only [absEx, absExA, absExL, absPtA, e3, e4]
  refine scopeFree_ok (ty_expr (by simp) (by simp) (two_exprs t3 t4) nilP) (by rw [abs2]; simp only [szEx, szExs, szPts]; omega) fun A v g3 hA eA hv => ⟨A, hA, hv, ?_⟩
  rw [abs2, app_free] at eA
  refine copy1_ok hx fun x3 t5 e5 => ⟨.sl 7 [x3], one_expr t5, rfl, ?_⟩
  have abs1 : ∀ (k : Int) (s : Str), absEx (.agg [.int .i64 k, .str s, .str [], .int .i64 0, .sl 7 [x3], .nil, .int .i64 0]) = .mk k s [] 0 [absEx x] [] 0 := fun k s => by simp only [absEx, absExA, absExL, absPtA, e5]
  refine scopeFree_ok (ty_expr hnm (by simp) (one_expr t5) nilP) (by rw [abs1]; simp only [szEx, szExs, szPts]; omega) fun B v g4 hB eB hv => ⟨B, hB, hv, ?_⟩
  rw [abs1, fun_free] at eB
  refine copy2_ok hx hy fun x4 y4 t6 e6 t7 e7 => ⟨.sl 7 [x4, y4], two_exprs t6 t7, rfl, ?_⟩
  have abs3 : ∀ (k : Int) (s : Str), absEx (.agg [.int .i64 k, .str s, .str [], .int .i64 0, .sl 7 [x4, y4], .nil, .int .i64 0]) = .mk k s [] 0 [absEx x, absEx y] [] 0 := fun k s => by simp only [absEx, absExA, absExL, absPtA, e6, e7]
  refine scopeFree_ok (ty_expr hnm (by simp) (two_exprs t6 t7) nilP) (by rw [abs3]; simp only [szEx, szExs, szPts]; omega) fun C v g5 hC eC hv => ⟨C, hC, hv, ?_⟩
  rw [abs3, let_free] at eC
  have sL := free_strs (x := x) hL eL
  have sK := free_strs (x := x) hK eK
  have nL := freeE_len (absEx x) [] []
  have nK := freeE_len (absEx y) [] []
  generalize hl : freeE (absEx x) [] [] = l at eL eA eB eC sL nL
  generalize hk : freeE (absEx y) [] [] = k at eK eA eC sK nK
  simp only [List.length_nil] at nL nK
  refine ⟨fitS' (by rw [elsLen eL]; omega), fitS' (by rw [elsLen eL]; omega), ?_⟩
  rw [eL, List.nil_append]
  have strsA : ∀ k', (∀ s ∈ k', s.length ≤ 2 ^ 40) → ∀ s ∈ addAll l k', s.length ≤ 2 ^ 40 := fun k' h s hs => ((mem_addAll _ _ _).1 hs).elim (sL s) (h s)
  refine loopUp (len := k.length) (fun i => ∀ g0, L14_11 nm L K A B C ((addAll l (k.take i)).map .str) ((addAll l (noName nm (k.take i))).map .str) (i : Int) g0 Qf) ?_ ?_ 0 (Nat.zero_le _) g5
  · intro g0
    refine w14_11 ?_
    rw [elsLen eK, Br_ge, List.take_length]
    refine loopUp (len := l.length) (fun i => L14_19 nm L A B C ((addAll l k).map .str) ((addAll l (noName nm k)).map .str) ((noName nm (l.take i)).map .str) (i : Int) g0 Qf) ?_ ?_ 0 (Nat.zero_le _)
    · refine w14_19 ?_
      rw [elsLen eL, Br_ge, List.take_length]
      have n1 := addAll_len l k
      have n2 := addAll_len l (noName nm k)
      have n3 : (noName nm k).length ≤ k.length := List.length_filter_le _ _
      have n4 : (noName nm l).length ≤ l.length := List.length_filter_le _ _
      have tl : HasTy TT 61 (slOf 1 ((noName nm l).map Dat.str)) := slOf_ty undStrs szStr (by rw [List.length_map]; exact fitS (by omega)) fun d hd => by
        obtain ⟨s, hs, rfl⟩ := List.mem_map.1 hd
        exact ty_str (sL s ((List.mem_filter.1 hs).1))
      refine texts_ok hA eA (strs_sl (by omega) (strsA k sK)) rfl ⟨_, rfl, ?_⟩
      rw [beq_self_eq_true]
      refine texts_ok hB eB tl (slOf_els _ _) ⟨_, rfl, ?_⟩
      rw [beq_self_eq_true]
      refine texts_ok hC eC (strs_sl (by omega) (strsA _ fun s hs => sK s ((List.mem_filter.1 hs).1))) rfl ⟨_, rfl, ?_⟩
      rw [beq_self_eq_true]
      exact wk g0
    · intro i hi ih
      refine w14_19 ?_
      rw [elsLen eL, Br_lt hi, strAt eL hi, wrap_nat (by omega)]
      have e : noName nm (l.take (i + 1)) = noName nm (l.take i) ++ noName nm [l[i]] := by rw [List.take_succ_eq_append_getElem hi, noName_app]
      have n4 : (noName nm (l.take i)).length ≤ l.length := Nat.le_trans (List.length_filter_le _ _) (by rw [List.length_take]; omega)
      rw [e] at ih
      refine ⟨inB hi, Br_iff.2 ⟨fun q => ⟨inB hi, fitS' (by simp only [List.length_map, List.length_cons, List.length_nil]; omega), ?_⟩, fun q => ?_⟩⟩
      · have e2 : noName nm [l[i]] = [l[i]] := by simp only [noName, List.filter_cons, q, if_true, List.filter_nil]
        rw [e2, List.map_append] at ih
        exact ih
      · have e2 : noName nm [l[i]] = [] := by simp only [noName, List.filter_cons, q, Bool.false_eq_true, if_false, List.filter_nil]
        rw [e2, List.append_nil] at ih
        exact ih
  · intro i hi ih g0
    have n0 : (k.take i).length ≤ k.length := by rw [List.length_take]; omega
    have n1 := addAll_len l (k.take i)
    have n2 := addAll_len l (noName nm (k.take i))
    have n3 : (noName nm (k.take i)).length ≤ (k.take i).length := List.length_filter_le _ _
    have ty12 : HasTy TT 61 (.sl 1 ((addAll l (k.take i)).map Dat.str)) := strs_sl (by omega) (strsA _ fun s hs => sK s (List.mem_of_mem_take hs))
    have ty13 : HasTy TT 61 (.sl 1 ((addAll l (noName nm (k.take i))).map Dat.str)) := strs_sl (by omega) (strsA _ fun s hs => sK s (List.mem_of_mem_take ((List.mem_filter.1 hs).1)))
    have hki := sK _ (List.getElem_mem hi)
    have e12 : addAll l (k.take (i + 1)) = if (addAll l (k.take i)).contains k[i] then addAll l (k.take i) else addAll l (k.take i) ++ [k[i]] := by rw [List.take_succ_eq_append_getElem hi, addAll_snoc]
    have e13 : addAll l (noName nm (k.take (i + 1))) = if k[i] == nm then addAll l (noName nm (k.take i)) else if (addAll l (noName nm (k.take i))).contains k[i] then addAll l (noName nm (k.take i)) else addAll l (noName nm (k.take i)) ++ [k[i]] := by
      rw [List.take_succ_eq_append_getElem hi, noName_app]
      cases h : k[i] == nm with
      | true => simp [noName, h]
      | false =>
        have : noName nm [k[i]] = [k[i]] := by simp [noName, h]
        rw [this, addAll_snoc]
        rfl
    have fin : ∀ l12 l13 g', l12 = (addAll l (k.take (i + 1))).map Dat.str → l13 = (addAll l (noName nm (k.take (i + 1)))).map Dat.str → L14_11 nm L K A B C l12 l13 (IntKind.i64.wrap ((i : Int) + 1)) g' Qf := fun l12 l13 g' h1 h2 => by
      subst h1 h2
      rw [wrap_nat (by omega)]
      exact ih g'
    have hn : ∀ {c : Bool}, (!c) = true → c = false := fun h => by simpa using h
    have hn' : ∀ {c : Bool}, (!c) = false → c = true := fun h => by simpa using h
    refine w14_11 ?_
    rw [elsLen eK, Br_lt hi, strAt eK hi]
    have iB : InB (i : Int) k.length := inB hi
    have f12 : Fits (((addAll l (k.take i)).map Dat.str).length + [Dat.str k[i]].length) 16 := fitS' (by simp only [List.length_map, List.length_cons, List.length_nil]; omega)
    have f13 : Fits (((addAll l (noName nm (k.take i))).map Dat.str).length + [Dat.str k[i]].length) 16 := fitS' (by simp only [List.length_map, List.length_cons, List.length_nil]; omega)
    refine ⟨iB, l14among_ok ty12 rfl hki ⟨_, rfl, Br_iff.2 ⟨fun p1 => ⟨iB, f12, iB, Br_iff.2 ⟨fun p2 => ⟨iB, l14among_ok ty13 rfl hki ⟨_, rfl, Br_iff.2 ⟨fun p3 => ⟨iB, f13, fin _ _ _ ?_ ?_⟩, fun p3 => fin _ _ _ ?_ ?_⟩⟩⟩, fun p2 => fin _ _ _ ?_ ?_⟩⟩,
      fun p1 => ⟨iB, Br_iff.2 ⟨fun p2 => ⟨iB, l14among_ok ty13 rfl hki ⟨_, rfl, Br_iff.2 ⟨fun p3 => ⟨iB, f13, fin _ _ _ ?_ ?_⟩, fun p3 => fin _ _ _ ?_ ?_⟩⟩⟩, fun p2 => fin _ _ _ ?_ ?_⟩⟩⟩⟩⟩
    all_goals first | rw [e12] | rw [e13]
    all_goals first | rw [hn p1] | rw [hn' p1] | skip
    all_goals first | rw [hn p2] | rw [hn' p2] | skip
    all_goals first | rw [hn p3] | rw [hn' p3] | skip
    all_goals first | rfl | (simp only [if_true, Bool.false_eq_true, if_false, List.map_append, List.map_cons, List.map_nil])
end Go.Proofs.YtgmapdcdmomioaaGreatDoor.Pa
