/- Scope: the law ScopeParts. Scope: the law ScopeClosed. -/
import Derived.Test.YtgmapdcdmomioaaGreatDoorUE
import Derived.Test.YtgmapdcdmomioaaGreatDoorUF
set_option linter.all false
set_option autoImplicit false
set_option maxRecDepth 100000
namespace Go.Proofs.YtgmapdcdmomioaaGreatDoor.Pa
open Go Go.Proofs.YtgmapdcdmomioaaGreatDoor.Am
def nN (nm : Str) (l : List Str) : List Str := l.filter fun s => !(s == nm)
theorem noName_app (nm : Str) (l k : List Str) : nN nm (l ++ k) = nN nm l ++ nN nm k := List.filter_append ..
theorem noName_contains (nm s : Str) (l : List Str) (h : (s == nm) = false) : (nN nm l).contains s = l.contains s := by
  rw [Bool.eq_iff_iff, List.contains_iff_mem, List.contains_iff_mem, nN, List.mem_filter, h]
  simp
theorem free_var_no (nm s : Str) (c : Bool) (bd o : List Str) : (if c && (!(nm :: bd).contains s && !(nN nm o).contains s) then nN nm o ++ [s] else nN nm o) = nN nm (if c && (!bd.contains s && !o.contains s) then o ++ [s] else o) := by
  cases c with
  | false => rfl
  | true =>
    simp only [Bool.true_and, List.contains_cons]
    cases h : s == nm with
    | true =>
      simp only [Bool.true_or, Bool.not_true, Bool.false_and, Bool.false_eq_true, if_false]
      split
      · rw [noName_app]
        simp [nN, h]
      · rfl
    | false =>
      rw [noName_contains _ _ _ h, Bool.false_or]
      split
      · rw [noName_app]
        simp [nN, h]
      · rfl
mutual
theorem free_no (nm : Str) : ∀ (e : Ex') (bd o : List Str), fE e (nm :: bd) (nN nm o) = nN nm (fE e bd o)
  | .mk k s r n a b p, bd, o => by
    simp only [fE]
    rw [free_var_no]
    exact frees_no nm _ _ _ _ _
theorem frees_no (nm : Str) : ∀ (bi : Nat → List Str) (l : List Ex') (i : Nat) (bd o : List Str), fre bi l i (nm :: bd) (nN nm o) = nN nm (fre bi l i bd o)
  | bi, [], i, bd, o => rfl
  | bi, x :: xs, i, bd, o => by
    simp only [fre, List.cons_append]
    rw [free_no nm x (bd ++ bi i) o]
    exact frees_no nm _ _ _ _ _
end
theorem free_bound (nm : Str) (e : Ex') : fE e [nm] [] = nN nm (fE e [] []) := free_no nm e [] []
theorem fun_free (a : Ex') (s r : Str) (n p : Int) : fE (.mk 3 s r n [a] [] p) [] [] = nN s (fE a [] []) := by
  show fE a ([] ++ bn 3 s r [] 0) [] = _
  have h0 : bn 3 s r [] 0 = [s] := rfl
  rw [h0, List.nil_append, free_bound]
theorem free_strs {x X : Dat} (h : Ha TT 61 X) {l : List Str} (e : elO X = l.map .str) : ∀ s ∈ l, s.length ≤ 2 ^ 40 := by
  obtain ⟨l', e', s, _⟩ := strs_inv h
  rw [← mapStr_inj (e'.symm.trans e)]
  exact s
end Go.Proofs.YtgmapdcdmomioaaGreatDoor.Pa
namespace Go.Proofs.YtgmapdcdmomioaaGreatDoor.Pa
open Go Go.Proofs.YtgmapdcdmomioaaGreatDoor.Am
mutual
theorem patF_vars (l : List Dc) : ∀ (x : Pt) (ns r : List Str), patF l x ns = .ok r → r = ns ++ varsP x
  | .mk k s n a p, ns, r, h => by
    unfold patF at h
    unfold varsP
    cases q : k == 2 with
    | true =>
      rw [q] at h
      cases q2 : ns.contains s with
      | true => rw [q2] at h; cases h
      | false =>
        rw [q2] at h
        rw [patFs_vars l a (ns ++ [s]) r h]
        simp
    | false =>
      rw [q] at h
      cases q2 : k == 4 && !(conOk l s a.length) with
      | true => rw [q2] at h; cases h
      | false =>
        rw [q2] at h
        rw [patFs_vars l a ns r h]
        simp
theorem patFs_vars (l : List Dc) : ∀ (x : List Pt) (ns r : List Str), patFs l x ns = .ok r → r = ns ++ vP x
  | [], ns, r, h => by cases h; simp [vP]
  | x :: xs, ns, r, h => by
    unfold patFs at h
    unfold vP
    cases q : patF l x ns with
    | bad p => rw [q] at h; cases h
    | ok ns' =>
      rw [q] at h
      rw [patFs_vars l xs ns' r h, patF_vars l x ns ns' q, List.append_assoc]
end
theorem names_binds {l : List Dc} {k : Int} {s r : Str} {b : List Pt} {i : Nat} {ns : List Str} (h : nam l k s r b i = .ok ns) : ns = bn k s r b i := by
  unfold nam at h
  cases q : k == 7 && decide (0 < i) with
  | false => rw [q] at h; cases h; rfl
  | true =>
    rw [q, cond_true] at h
    rw [Bool.and_eq_true, beq_iff_eq] at q
    obtain ⟨rfl, q⟩ := q
    have q := of_decide_eq_true q
    unfold bn
    by_cases hi : i ≤ b.length
    · have e : b[i - 1]? = some (b[i - 1]'(by omega)) := List.getElem?_eq_getElem (by omega)
      rw [e] at h ⊢
      have := patF_vars l _ [] ns h
      rw [this]
      simp [q, hi]
    · have e : b[i - 1]? = none := List.getElem?_eq_none (by omega)
      rw [e] at h
      cases h
      simp [hi]
mutual
theorem expr_closed (l : List Dc) : ∀ (e : Ex') (bd out : List Str), exprF l e bd = none → fE e bd out = out
  | .mk k s r n a b p, bd, out, h => by
    unfold exprF at h
    unfold fE
    cases q : k == 1 && !(bd.contains s) with
    | true => rw [q] at h; cases h
    | false =>
      rw [q] at h
      cases q2 : k == 8 && !(conOk l s a.length) with
      | true => rw [q2] at h; cases h
      | false =>
        rw [q2] at h
        rw [exprs_closed l k s r b a 0 bd _ h, ← Bool.and_assoc, q]
        rfl
theorem exprs_closed (l : List Dc) (k : Int) (s r : Str) (b : List Pt) : ∀ (xs : List Ex') (i : Nat) (bd out : List Str), exprFs l (nam l k s r b) xs i bd = none → fre (bn k s r b) xs i bd out = out
  | [], i, bd, out, h => rfl
  | x :: xs, i, bd, out, h => by
    unfold exprFs at h
    unfold fre
    cases q : nam l k s r b i with
    | bad p => rw [q] at h; cases h
    | ok ns =>
      rw [q] at h
      replace h : (match exprF l x (bd ++ ns) with | some p => some p | none => exprFs l (nam l k s r b) xs (i + 1) bd) = none := h
      rw [← names_binds q]
      cases q2 : exprF l x (bd ++ ns) with
      | some p => rw [q2] at h; cases h
      | none =>
        rw [q2] at h
        rw [expr_closed l x (bd ++ ns) out q2]
        exact exprs_closed l k s r b xs (i + 1) bd out h
end
theorem chk_closed {P : Pg} (h : (chk14 P).1 = 0) : fE P.e [] [] = [] := by
  unfold chk14 at h
  cases q : rCheckP P with
  | false => rw [q] at h; cases h
  | true =>
    rw [q] at h
    replace h : (chkNames P).1 = 0 := h
    unfold chkNames at h
    cases e1 : fB (baseL.map abD) P.ds with
    | some q => rw [e1] at h; cases h
    | none =>
      rw [e1] at h
      simp only at h
      cases e2 : fir (alD P) P.ds with
      | some q => rw [e2] at h; cases h
      | none =>
        rw [e2] at h
        simp only at h
        cases e3 : exprF (alD P) P.e [] with
        | some q => rw [e3] at h; cases h
        | none => exact expr_closed _ _ _ _ e3
def noNames (ks l : List Str) : List Str := ks.foldl (fun o s => nN s o) l
theorem noNames_snoc (ks l : List Str) (s : Str) : noNames (ks ++ [s]) l = nN s (noNames ks l) := by simp [noNames, List.foldl_append]
theorem mem_noNames (ks : List Str) : ∀ (l : List Str) (t : Str), t ∈ noNames ks l → t ∈ l ∧ t ∉ ks := by
  induction ks with
  | nil => intro l t h; exact ⟨h, by simp⟩
  | cons s ks ih =>
    intro l t h
    obtain ⟨h1, h2⟩ := ih (nN s l) t h
    obtain ⟨h3, h4⟩ := List.mem_filter.1 h1
    refine ⟨h3, fun h => ?_⟩
    rcases List.mem_cons.1 h with rfl | h
    · simp at h4
    · exact h2 h
theorem noNames_all (l : List Str) : noNames l l = [] := by
  cases h : noNames l l with
  | nil => rfl
  | cons t ts =>
    obtain ⟨h1, h2⟩ := mem_noNames l l t (by rw [h]; exact List.mem_cons_self)
    exact absurd h1 h2
theorem closedLoop {L : Dat} {l : List Str} {n0 : Nat} {Qf : OGP} (hL : Ha TT 61 L) (eL : elO L = l.map .str) (nl : l.length ≤ 2 ^ 30) (n0s : n0 ≤ 2000) (hQ : ∀ g, Qf (.val (.d (.bool true))) g) :
    ∀ (i : Nat), i ≤ l.length → ∀ {y : Dat} {g : Glob}, i ≤ 50 → Ha TT 27 y → fE (ax y) [] [] = noNames (l.take i) l → szx (ax y) ≤ n0 + i → L12_9 L (i : Int) y g Qf := by
  have wk : ∀ g, EvF TT 28 [] g (KQ Qf fun v g' => ∃ b, v = Val.d (Dat.bool b) ∧ Qf (Out.val (Val.d (Dat.bool b))) g') := fun g => wakes14_ok g _ ⟨_, rfl, hQ g⟩
  have sL := free_strs (x := L) hL eL
  have c50 : decide ((50 : Int) < (l.length : Int)) = decide (50 < l.length) := by
    by_cases h : 50 < l.length
    · rw [decide_eq_true h, decide_eq_true (by omega)]
    · rw [decide_eq_false h, decide_eq_false (by omega)]
  refine lU (len := l.length) _ ?_ ?_
  · intro y g hi hy ey ny
    refine w12_9 ?_
    rw [elsLen eL, Bg, c50]
    rw [List.take_length, noNames_all] at ey
    refine Bi.2 ⟨fun _ => wk g, fun q => ?_⟩
    refine scopeFree_ok hy (by omega) fun X v g' hX eX hv => ⟨X, hX, hv, ?_⟩
    rw [ey] at eX
    rw [eX]
    exact wk g'
  · intro i hi ih y g h50 hy ey ny
    refine w12_9 ?_
    rw [elsLen eL, Bl hi, c50, strAt eL hi]
    refine Bi.2 ⟨fun q => ⟨inB hi, ?_⟩, fun q => Bi.2 ⟨fun _ => wk g, fun q2 => ?_⟩⟩
    · have q := of_decide_eq_true q
      rw [wra (by omega)]
      have ea : ax (.agg [.int .i64 3, .str l[i], .str [], .int .i64 0, .sl 7 [y], .nil, .int .i64 0]) = .mk 3 l[i] [] 0 [ax y] [] 0 := by simp only [ax, absExA, absExL, abt]
      refine ih (by omega) (ty_expr (sL _ (List.getElem_mem hi)) (by simp) (one_expr hy) (.nil _ (by rw [uP]; rfl))) ?_ ?_
      · rw [ea, fun_free, ey, List.take_succ_eq_append_getElem hi, noNames_snoc]
      · rw [ea]
        simp only [szx, szE, szP]
        omega
    · exfalso
      have q := of_decide_eq_false q
      have q2 := of_decide_eq_false q2
      omega
theorem scopeClosedLaw (x : Dat) (g : Glob) (hx : Ha TT 29 x) (hb : StrB x) (Qf : OGP) (hQ : ∀ g, Qf (.val (.d (.bool true))) g) : EvF TT 12 [x] g Qf := by
  have wk : ∀ g, EvF TT 28 [] g (KQ Qf fun v g' => ∃ b, v = Val.d (Dat.bool b) ∧ Qf (Out.val (Val.d (Dat.bool b))) g') := fun g => wakes14_ok g _ ⟨_, rfl, hQ g⟩
  refine w12 hx ?_
  refine large_all x g hx _ ⟨_, rfl, wk g⟩ fun h1 h2 h3 => ⟨_, rfl, ?_⟩
  have hp := pre_of hx hb h1 h2 h3
  have mn : ∀ {z : Dat}, Ha TT 29 z → Ha TT 27 (sub z 1 7) ∧ ax (sub z 1 7) = (abP z).e := fun {z} hz => by
    obtain ⟨d1, k1, s1, r1, n1, a1, b1, p1, rfl, hd1, he1⟩ := pro hz
    exact ⟨he1, rfl⟩
  refine small_ok (mn hx).1 fun b hb' => ⟨_, rfl, Bi.2 ⟨fun _ => wk g, fun q => ?_⟩⟩
  have hsz : szx (abP x).e ≤ 1200 := by rw [← (mn hx).2]; exact hb' (by simpa using q)
  refine copy_ok x g hx _ fun a ha ea => ⟨a, ha, rfl, ?_⟩
  refine scopeCheck_ok ha (by rw [ea]; exact hp) fun g1 => ⟨_, ty_fault, rfl, ?_⟩
  refine copy_ok x g1 hx _ fun a2 ha2 ea2 => ⟨a2, ha2, rfl, ?_⟩
  have e2 : ax (sub a2 1 7) = (abP x).e := by rw [(mn ha2).2, ea2]
  refine scopeFree_ok (mn ha2).1 (by rw [e2]; omega) fun L v g2 hL eL hv => ⟨L, hL, hv, ?_⟩
  rw [e2] at eL
  have rest : EvF TT 23 [x] g2 (KQ Qf fun v g' => ∃ x, Ha TT 29 x ∧ v = Val.d x ∧ L12_9 L 0 (sub x 1 7) g' Qf) := by
    refine copy_ok x g2 hx _ fun a3 ha3 ea3 => ⟨a3, ha3, rfl, ?_⟩
    have e3 : ax (sub a3 1 7) = (abP x).e := by rw [(mn ha3).2, ea3]
    have nl : (fE (abP x).e [] []).length ≤ 1200 := by have := freeE_len (abP x).e [] []; simp only [List.length_nil] at this; omega
    exact closedLoop (n0 := 1200) hL eL (by omega) (by omega) hQ 0 (Nat.zero_le _) (by omega) (mn ha3).1 (by rw [e3]; rfl) (by rw [e3]; omega)
  rw [ea]
  show Br ((chk14 (abP x)).1 == 0) _ _
  refine Bi.2 ⟨fun q => ?_, fun _ => rest⟩
  have hn := chk_closed (beq_iff_eq.1 q)
  rw [hn] at eL
  rw [eL]
  exact rest
end Go.Proofs.YtgmapdcdmomioaaGreatDoor.Pa
