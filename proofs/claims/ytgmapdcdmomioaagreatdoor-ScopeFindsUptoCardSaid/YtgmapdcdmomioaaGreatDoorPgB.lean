/- All types that there are, and where a constructor is: the law ScopeFinds answers true. -/
import Derived.Test.YtgmapdcdmomioaaGreatDoorPwJ
import Derived.Test.YtgmapdcdmomioaaGreatDoorPfN
set_option linter.all false
set_option linter.all false
set_option autoImplicit false
set_option maxRecDepth 100000
namespace Go.Proofs.YtgmapdcdmomioaaGreatDoor.Pa
open Go Go.Proofs.YtgmapdcdmomioaaGreatDoor.Am
theorem twins_ok : ∀ (k : Nat) (x : Dat) (g : Glob), SizeOf.sizeOf x < k → HasTy TT 89 x → ∀ (Qf : Out → Glob → Prop), (∀ l : List Dat, (∀ y ∈ l, HasTy TT 94 y) → l.length = (elsOf x).length → l.map absTy = (elsOf x).map absTy → Qf (.val (retOf 4 l)) g) → EvF TT 158 [x] g Qf
  | 0, x, g, hk, _ => by omega
  | k + 1, x, g, hk, hx => by
    intro Qf hQ
    have ex := hx.els undTypes
    have exl := ex.1.1
    refine w158 hx ?_
    refine loopUp (len := (elsOf x).length) (fun i => ∀ l : List Dat, l.length = i → (∀ y ∈ l, HasTy TT 94 y) → l.map absTy = ((elsOf x).take i).map absTy → L158_3 l x ((elsOf x).length : Int) (i : Int) g Qf) ?_ ?_ 0 (Nat.zero_le _) [] rfl (fun y h => by cases h) rfl
    · intro l h1 h2 h3
      refine w158_3 ?_
      rw [Br_ge]
      rw [List.take_length] at h3
      exact hQ l h2 h1 h3
    · intro i hi ih l h1 h2 h3
      refine w158_3 ?_
      rw [Br_lt hi, getE_nat hi]
      have hsz := sizeOf_el hi
      obtain ⟨k1, s1, n1, a1, e1, hs1, t1⟩ := type_ty (ex.2 _ (List.getElem_mem hi))
      have hab : absTy (elsOf x)[i] = .mk k1 s1 n1 (absTyA a1) := by rw [e1]; rfl
      rw [e1] at hsz ⊢
      have hc := sizeOf_cell (cs := [.int .i64 k1, .str s1, .int .i64 n1, a1]) (c := a1) (by simp)
      refine ⟨inB hi, twins_ok k a1 g (by omega) t1 _ fun l' hl' hn' ha' => ?_⟩
      have ta : HasTy TT 89 (slOf 4 l') := slOf_ty undTypes szType (by rw [hn']; exact (t1.els undTypes).1) hl'
      refine ⟨slOf 4 l', ta, retOf_ret _ _, (ex.1.le (by simp; omega)).fits byType, ?_⟩
      rw [wrap_nat (by omega)]
      refine ih _ (by simp [h1]) (fun y hy => ?_) (take_snoc hi h3 ?_)
      · rcases List.mem_append.1 hy with hy | hy
        · exact h2 y hy
        · simp only [List.mem_singleton] at hy; subst hy; exact ty_type hs1 ta
      · rw [hab]
        show Ty.mk k1 s1 n1 (absTyA (slOf 4 l')) = _
        rw [absTyA_map, slOf_els, ha', ← absTyA_map]
theorem allStr_ty : ∀ (l : List Dat), (∀ y ∈ l, HasTy TT 9 y) → allStr l = true
  | [], _ => rfl
  | x :: l, h => by
    obtain ⟨s, rfl, _⟩ := str_ty (h x (by simp))
    exact allStr_ty l fun y hy => h y (List.mem_cons_of_mem _ hy)
theorem elsOf_sl (m : Nat) (xs : List Dat) : elsOf (.sl m xs) = xs := rfl
theorem clone_ok (x : Dat) (g : Glob) (hx : HasTy TT 61 x) (Qf : Out → Glob → Prop) (hQ : Qf (.val (.d (.sl 1 (elsOf x)))) g) : EvF TT 157 [x] g Qf := by
  refine clone_raw (r := .val (.d (.sl 1 (elsOf x)))) g ?_ Qf hQ
  have ex := hx.els undStrs
  cases x with
  | nil => rfl
  | sl m xs =>
    have h1 : allStr xs = true := allStr_ty xs ex.2
    have h2 : xs.length ≤ 2 ^ 40 := ex.1.1
    have h3 : m = 1 := by
      cases hx with
      | sl _ e _ _ h hm _ _ =>
        rw [undStrs] at h
        cases h
        rw [szStr] at hm
        cases hm
        rfl
    subst h3
    show (bif Nat.beq 1 1 && allStr xs && Nat.ble xs.length 8796093022208 then some (Out.val (.d (.sl 1 xs)), g) else none) = _
    rw [h1, Nat.ble_eq_true_of_le (by omega)]
    rfl
  | _ => exact absurd hx (by intro h; cases h <;> simp_all [undStrs, isB0, isI0, isP0, isM, isF, isI, isAgg?, isB, isP, z0])
theorem twin_ok (x : Dat) (g : Glob) (hx : HasTy TT 76 x) (Qf : Out → Glob → Prop) (hQ : ∀ r, HasTy TT 76 r → absDc r = absDc x → Qf (.val (.d r)) g) : EvF TT 85 [x] g Qf := by
  refine w85 hx ?_
  obtain ⟨s2, a2, b2, p2, rfl, hs2, ha2, hb2⟩ := decl_ty hx
  have ea := ha2.els undStrs
  have eb := hb2.els undCons
  have ebl := eb.1.1
  simp only [fld, nth, strOf, intOf]
  have hcl : HasTy TT 61 (.sl 1 (elsOf a2)) := .sl _ _ _ _ undStrs szStr ea.1 ea.2
  refine clone_ok a2 g ha2 _ ⟨_, hcl, rfl, ?_⟩
  refine loopUp (len := (elsOf b2).length) (fun i => ∀ l : List Dat, l.length = i → (∀ y ∈ l, HasTy TT 91 y) → l.map absCn = ((elsOf b2).take i).map absCn → L85_4 l b2 ((elsOf b2).length : Int) (i : Int) (Dat.agg [Dat.str [], Dat.nil, Dat.nil, Dat.int IntKind.i64 0]) (.agg [.str s2, .sl 1 (elsOf a2), b2, .int .i64 p2]) g Qf) ?_ ?_ 0 (Nat.zero_le _) [] rfl (fun y h => by cases h) rfl
  · intro l h1 h2 h3
    refine w85_4 ?_
    rw [Br_ge]
    rw [List.take_length] at h3
    have tl : HasTy TT 74 (slOf 2 l) := slOf_ty undCons szCon (by rw [h1]; exact eb.1) h2
    refine hQ (.agg [.str s2, .sl 1 (elsOf a2), slOf 2 l, .int .i64 p2]) (ty_decl hs2 hcl tl) ?_
    rw [absDc_agg, absDc_agg, slOf_els, elsOf_sl, h3]
  · intro i hi ih l h1 h2 h3
    refine w85_4 ?_
    rw [Br_lt hi, getE_nat hi]
    obtain ⟨s3, f1, e3, hs3, hf1⟩ := con_ty (eb.2 _ (List.getElem_mem hi))
    have hab : absCn (elsOf b2)[i] = ⟨s3, absTyA f1⟩ := by rw [e3]; rfl
    rw [e3]
    refine ⟨inB hi, twins_ok _ f1 g (Nat.lt_succ_self _) hf1 _ fun l' hl' hn' ha' => ?_⟩
    have ta : HasTy TT 89 (slOf 4 l') := slOf_ty undTypes szType (by rw [hn']; exact (hf1.els undTypes).1) hl'
    refine ⟨slOf 4 l', ta, retOf_ret _ _, (eb.1.le (by simp; omega)).fits byCon, ?_⟩
    rw [wrap_nat (by omega)]
    refine ih _ (by simp [h1]) (fun y hy => ?_) (take_snoc hi h3 ?_)
    · rcases List.mem_append.1 hy with hy | hy
      · exact h2 y hy
      · simp only [List.mem_singleton] at hy; subst hy; exact ty_con hs3 ta
    · rw [hab]
      show (⟨s3, absTyA (slOf 4 l')⟩ : Cn) = _
      rw [absTyA_map, slOf_els, ha', ← absTyA_map]
/-- The types that are always there. -/
def baseL : List Dat := [Dat.agg [Dat.str [117, 110, 105, 116], Dat.nil, Dat.sl 2 [Dat.agg [Dat.str [85, 110, 105, 116], Dat.nil]], Dat.int IntKind.i64 0], Dat.agg [Dat.str [98, 111, 111, 108], Dat.nil, Dat.sl 2 [Dat.agg [Dat.str [70, 97, 108, 115, 101], Dat.nil], Dat.agg [Dat.str [84, 114, 117, 101], Dat.nil]], Dat.int IntKind.i64 0], Dat.agg [Dat.str [108, 105, 115, 116], Dat.sl 1 [Dat.str [97]], Dat.sl 2 [Dat.agg [Dat.str [78, 105, 108], Dat.nil], Dat.agg [Dat.str [67, 111, 110, 115], Dat.sl 4 [Dat.agg [Dat.int IntKind.i64 2, Dat.str [97], Dat.int IntKind.i64 0, Dat.nil], Dat.agg [Dat.int IntKind.i64 4, Dat.str [108, 105, 115, 116], Dat.int IntKind.i64 0, Dat.sl 4 [Dat.agg [Dat.int IntKind.i64 2, Dat.str [97], Dat.int IntKind.i64 0, Dat.nil]]]]]], Dat.int IntKind.i64 0]]
theorem fitOf {e : TypeId} {b n : Nat} (he : TT.bytes e = some b) (hb : b ≤ 200) (h : n ≤ 2 ^ 30) : SlFit TT e n := ⟨by omega, fun b' hb' => by
  rw [he] at hb'
  cases hb'
  have := Nat.mul_le_mul h hb
  omega⟩
theorem baseL_ty : ∀ y ∈ baseL, HasTy TT 76 y := by
  have nilS : HasTy TT 61 .nil := .nil _ (by rw [undStrs]; rfl)
  have nilT : HasTy TT 89 .nil := .nil _ (by rw [undTypes]; rfl)
  have st : ∀ s : Str, s.length ≤ 30 → s.length ≤ 2 ^ 40 := fun s h => by omega
  have con : ∀ (s : Str) (a : Dat), s.length ≤ 30 → HasTy TT 89 a → HasTy TT 91 (.agg [.str s, a]) := fun s a h1 h2 => ty_con (st s h1) h2
  have cons : ∀ (xs : List Dat), xs.length ≤ 30 → xs ≠ [] → (∀ x ∈ xs, HasTy TT 91 x) → HasTy TT 74 (.sl 2 xs) := fun xs h1 h2 h3 => by
    have := sl_ty (xs := xs) undCons szCon (fitOf byCon (by omega) (by omega)) h3
    cases xs with
    | nil => exact absurd rfl h2
    | cons a l => exact this
  have types : ∀ (xs : List Dat), xs.length ≤ 30 → xs ≠ [] → (∀ x ∈ xs, HasTy TT 94 x) → HasTy TT 89 (.sl 4 xs) := fun xs h1 h2 h3 => by
    have := sl_ty (xs := xs) undTypes szType (fitOf byType (by omega) (by omega)) h3
    cases xs with
    | nil => exact absurd rfl h2
    | cons a l => exact this
  have tv : HasTy TT 94 (Dat.agg [Dat.int IntKind.i64 2, Dat.str [97], Dat.int IntKind.i64 0, Dat.nil]) := ty_type (by simp) nilT
  have tl : HasTy TT 94 (Dat.agg [Dat.int IntKind.i64 4, Dat.str [108, 105, 115, 116], Dat.int IntKind.i64 0, Dat.sl 4 [Dat.agg [Dat.int IntKind.i64 2, Dat.str [97], Dat.int IntKind.i64 0, Dat.nil]]]) := ty_type (by simp) (types _ (by simp) (by simp) (by simpa using tv))
  intro y hy
  simp only [baseL, List.mem_cons, List.not_mem_nil, or_false] at hy
  rcases hy with rfl | rfl | rfl
  · exact ty_decl (by simp) nilS (cons _ (by simp) (by simp) (by simpa using con _ _ (by simp) nilT))
  · exact ty_decl (by simp) nilS (cons _ (by simp) (by simp) (by simpa using ⟨con _ _ (by simp) nilT, con _ _ (by simp) nilT⟩))
  · exact ty_decl (by simp) (ty_strs (l := [[97]]) (by simp) (by simp) (by simp)) (cons _ (by simp) (by simp) (by simpa using ⟨con _ _ (by simp) nilT, con _ _ (by simp) (types _ (by simp) (by simp) (by simpa using ⟨tv, tl⟩))⟩))
def allDc (P : Pg) : List Dc := baseL.map absDc ++ P.ds
theorem scopeAll_ok (x : Dat) (g : Glob) (hx : HasTy TT 29 x) (hn : (absPg x).ds.length ≤ 2 ^ 22) (Qf : Out → Glob → Prop) (hQ : ∀ r, HasTy TT 23 r → (elsOf r).map absDc = allDc (absPg x) → ∀ v, RetV v r → Qf (.val v) g) : EvF TT 31 [x] g Qf := by
  refine w31 hx ?_
  obtain ⟨d1, k1, s1, r1, n1, a1, b1, p1, rfl, hd1, he1⟩ := prog_ty hx
  have ed := hd1.els undDecls
  have hn : (elsOf d1).length ≤ 2 ^ 22 := by
    have : (absPg (.agg [d1, .int .i64 k1, .str s1, .str r1, .int .i64 n1, a1, b1, .int .i64 p1])).ds.length = (elsOf d1).length := List.length_map _
    omega
  have h0 : fld (.agg [d1, .int .i64 k1, .str s1, .str r1, .int .i64 n1, a1, b1, .int .i64 p1]) 0 = d1 := rfl
  rw [h0]
  refine loopUp (len := (elsOf d1).length) (fun i => ∀ l : List Dat, l.length = 3 + i → (∀ y ∈ l, HasTy TT 76 y) → l.map absDc = baseL.map absDc ++ ((elsOf d1).take i).map absDc → L31_3 l d1 ((elsOf d1).length : Int) (i : Int) g Qf) ?_ ?_ 0 (Nat.zero_le _) baseL rfl baseL_ty (by simp)
  · intro l h1 h2 h3
    refine w31_3 ?_
    rw [Br_ge]
    rw [List.take_length] at h3
    have hne : l ≠ [] := fun e => by rw [e] at h1; simp at h1; omega
    have hty : HasTy TT 23 (.sl 4 l) := by
      have := sl_ty (xs := l) undDecls szDecl (fitOf byDecl (by omega) (by omega)) h2
      cases l with
      | nil => exact absurd rfl hne
      | cons a l => exact this
    exact hQ _ hty h3 _ rfl
  · intro i hi ih l h1 h2 h3
    refine w31_3 ?_
    rw [Br_lt hi, getE_nat hi]
    refine ⟨inB hi, twin_ok _ g (ed.2 _ (List.getElem_mem hi)) _ fun r hr er => ⟨r, hr, rfl, (fitOf byDecl (by omega) (by simp; omega)).fits byDecl, ?_⟩⟩
    rw [wrap_nat (by omega)]
    refine ih _ (by simp [h1]; omega) (fun y hy => ?_) ?_
    · rcases List.mem_append.1 hy with hy | hy
      · exact h2 y hy
      · simp only [List.mem_singleton] at hy; subst hy; exact hr
    · rw [List.map_append, h3, List.append_assoc, List.take_succ, List.getElem?_eq_getElem hi, List.map_append]
      simp [er]
theorem r14All_ok (x : Dat) (g : Glob) (hx : HasTy TT 29 x) (hn : (absPg x).ds.length ≤ 2 ^ 22) (Qf : Out → Glob → Prop) (hQ : ∀ r, HasTy TT 23 r → (elsOf r).map absDc = allDc (absPg x) → ∀ v, RetV v r → Qf (.val v) g) : EvF TT 32 [x] g Qf := by
  refine w32 hx ?_
  obtain ⟨d1, k1, s1, r1, n1, a1, b1, p1, rfl, hd1, he1⟩ := prog_ty hx
  have ed := hd1.els undDecls
  have hn : (elsOf d1).length ≤ 2 ^ 22 := by
    have : (absPg (.agg [d1, .int .i64 k1, .str s1, .str r1, .int .i64 n1, a1, b1, .int .i64 p1])).ds.length = (elsOf d1).length := List.length_map _
    omega
  refine copyDecls_ok d1 g hd1 _ fun l hl hn' ha' => ?_
  have tl : HasTy TT 23 (slOf 4 l) := slOf_ty undDecls szDecl (by rw [hn']; exact ed.1) hl
  refine ⟨slOf 4 l, tl, retOf_ret _ _, (fitOf byDecl (by omega) (by rw [slOf_els]; omega)).fits byDecl, ?_⟩
  rw [slOf_els]
  have hty : HasTy TT 23 (.sl 4 (baseL ++ l)) := sl_ty (xs := baseL ++ l) undDecls szDecl (fitOf byDecl (by omega) (by simp [baseL]; omega)) (fun y hy => (List.mem_append.1 hy).elim (baseL_ty y) (hl y))
  refine hQ (.sl 4 (baseL ++ l)) hty ?_ _ rfl
  rw [elsOf, List.map_append, ha']
  rfl
/-! ### Where a constructor is -/
def findCn (s : Str) : List Cn → Int → Option Int
  | [], _ => none
  | c :: l, i => bif c.s == s then some i else findCn s l (i + 1)
def findDc (s : Str) : List Dc → Int → Int × Int × Bool
  | [], _ => (0, 0, false)
  | d :: l, i => match findCn s d.cs 0 with
    | some k => (i, k, true)
    | none => findDc s l (i + 1)
def out3 (r : Int × Int × Bool) : Out := .val (.tuple [.d (.int .i64 r.1), .d (.int .i64 r.2.1), .d (.bool r.2.2)])
theorem find_ok (x : Dat) (s : Str) (g : Glob) (hx : HasTy TT 23 x) (hs : s.length ≤ 2 ^ 40) (Qf : Out → Glob → Prop) (hQ : Qf (out3 (findDc s ((elsOf x).map absDc) 0)) g) : EvF TT 34 [x, .str s] g Qf := by
  have ed := hx.els undDecls
  have edl := ed.1.1
  refine w34 hx hs ?_
  refine loopUp (len := (elsOf x).length) (fun i => Qf (out3 (findDc s (((elsOf x).drop i).map absDc) (i : Int))) g → L34_2 s x ((elsOf x).length : Int) (i : Int) g Qf) ?_ ?_ 0 (Nat.zero_le _) hQ
  · intro hQ
    refine w34_2 ?_
    rw [Br_ge]
    rw [List.drop_length] at hQ
    exact hQ
  · intro i hi ih hQ
    refine w34_2 ?_
    rw [Br_lt hi, getE_nat hi]
    rw [drop_map_cons hi, findDc, absDc_cs] at hQ
    obtain ⟨s2, a2, b2, p2, e2, _, ha2, hb2⟩ := decl_ty (ed.2 _ (List.getElem_mem hi))
    rw [e2] at hQ ⊢
    have f2 : fld (Dat.agg [.str s2, a2, b2, .int .i64 p2]) 2 = b2 := rfl
    rw [f2] at hQ ⊢
    have eb := hb2.els undCons
    have ebl := eb.1.1
    refine ⟨inB hi, ?_⟩
    refine loopUp (len := (elsOf b2).length) (fun j => Qf (match findCn s (((elsOf b2).drop j).map absCn) (j : Int) with | some k => out3 ((i : Int), k, true) | none => out3 (findDc s (((elsOf x).drop (i + 1)).map absDc) ((i : Int) + 1))) g → L34_5 s (i : Int) x ((elsOf x).length : Int) (i : Int) b2 ((elsOf b2).length : Int) (j : Int) g Qf) ?_ ?_ 0 (Nat.zero_le _) ?_
    · intro hQ
      refine w34_5 ?_
      rw [Br_ge, wrap_nat (by omega)]
      rw [List.drop_length] at hQ
      exact ih hQ
    · intro j hj ihj hQ
      refine w34_5 ?_
      rw [Br_lt hj, getE_nat hj]
      rw [drop_map_cons hj, findCn] at hQ
      refine ⟨inB hj, ?_⟩
      show Br ((absCn (elsOf b2)[j]).s == s) _ _
      cases hc : ((absCn (elsOf b2)[j]).s == s) with
      | true => rw [hc] at hQ; exact hQ
      | false =>
        rw [hc] at hQ
        rw [Br_false, wrap_nat (by omega)]
        exact ihj hQ
    · rw [List.drop_zero]
      cases hf : findCn s ((elsOf b2).map absCn) 0 with
      | none =>
        rw [hf] at hQ
        exact hQ
      | some k =>
        rw [hf] at hQ
        exact hQ
theorem r14Find_ok (x : Dat) (s : Str) (g : Glob) (hx : HasTy TT 23 x) (hs : s.length ≤ 2 ^ 40) (Qf : Out → Glob → Prop) (hQ : Qf (out3 (findDc s ((elsOf x).map absDc) 0)) g) : EvF TT 35 [x, .str s] g Qf := by
  have ed := hx.els undDecls
  have edl := ed.1.1
  refine w35 hx hs ?_
  refine loopUp (len := (elsOf x).length) (fun i => Qf (out3 (findDc s (((elsOf x).drop i).map absDc) (i : Int))) g → L35_2 x s (i : Int) g Qf) ?_ ?_ 0 (Nat.zero_le _) hQ
  · intro hQ
    refine w35_2 ?_
    rw [Br_ge]
    rw [List.drop_length] at hQ
    exact hQ
  · intro i hi ih hQ
    refine w35_2 ?_
    rw [Br_lt hi]
    rw [drop_map_cons hi, findDc, absDc_cs] at hQ
    obtain ⟨s2, a2, b2, p2, e2, _, ha2, hb2⟩ := decl_ty (ed.2 _ (List.getElem_mem hi))
    rw [e2] at hQ
    have f2 : fld (Dat.agg [.str s2, a2, b2, .int .i64 p2]) 2 = b2 := rfl
    rw [f2] at hQ
    have eb := hb2.els undCons
    have ebl := eb.1.1
    refine loopUp (len := (elsOf b2).length) (fun j => Qf (match findCn s (((elsOf b2).drop j).map absCn) (j : Int) with | some k => out3 ((i : Int), k, true) | none => out3 (findDc s (((elsOf x).drop (i + 1)).map absDc) ((i : Int) + 1))) g → L35_5 x s (i : Int) (j : Int) g Qf) ?_ ?_ 0 (Nat.zero_le _) ?_
    · intro hQ
      refine w35_5 ⟨inB hi, ?_⟩
      rw [getE_nat hi, e2, f2, Br_ge, wrap_nat (by omega)]
      rw [List.drop_length] at hQ
      exact ih hQ
    · intro j hj ihj hQ
      refine w35_5 ⟨inB hi, ?_⟩
      rw [getE_nat hi, e2, f2, Br_lt hj, getE_nat hj]
      rw [drop_map_cons hj, findCn] at hQ
      refine ⟨inB hi, inB hj, ?_⟩
      show Br ((absCn (elsOf b2)[j]).s == s) _ _
      cases hc : ((absCn (elsOf b2)[j]).s == s) with
      | true => rw [hc] at hQ; exact hQ
      | false =>
        rw [hc] at hQ
        rw [Br_false, wrap_nat (by omega)]
        exact ihj hQ
    · rw [List.drop_zero]
      cases hf : findCn s ((elsOf b2).map absCn) 0 with
      | none =>
        rw [hf] at hQ
        exact hQ
      | some k =>
        rw [hf] at hQ
        exact hQ
theorem strB_len {x : Dat} (h : StrB x) : (elsOf x).length ≤ 2 ^ 21 := by
  cases h with
  | sl m xs hl h => exact hl
  | _ => simp [elsOf]
theorem scopeFindsLaw (x y : Dat) (g : Glob) (hx : HasTy TT 29 x) (hy : HasTy TT 9 y) (hb : StrB x) (hb' : StrB y) (Qf : Out → Glob → Prop) (hQ : Qf (.val (.d (.bool true))) g) : EvF TT 10 [x, y] g Qf := by
  obtain ⟨s, rfl, hs⟩ := str_ty hy
  refine w10 hx hs ?_
  have hn : (absPg x).ds.length ≤ 2 ^ 22 := by
    rw [absPg_ds, List.length_map]
    have := strB_len (strB_fld hb 0)
    omega
  refine large_ok x g hx _ fun b => ⟨_, rfl, Br_iff.2 ⟨fun _ => wakes14_ok g _ ⟨_, rfl, hQ⟩, fun _ => ?_⟩⟩
  refine copy_ok x g hx _ fun a ha ea => ⟨a, ha, rfl, ?_⟩
  refine scopeAll_ok a g ha (by rw [ea]; exact hn) _ fun l hl el v hv => ⟨l, hl, hv, ?_⟩
  refine r14All_ok x g hx hn _ fun k hk ek v hv => ⟨k, hk, hv, ?_⟩
  rw [ea] at el
  refine declsOk true l k g hl hk _ ⟨_, rfl, ?_⟩
  rw [el, ek, eqBy_refl (eqDc_refl true)]
  refine find_ok l s g hl hs _ ⟨_, _, _, ⟨rfl, rfl, rfl, trivial⟩, r14Find_ok k s g hk hs _ ⟨_, _, _, ⟨rfl, rfl, rfl, trivial⟩, ?_⟩⟩
  obtain ⟨d1, k1, s1, r1, n1, a1, b1, p1, rfl, hd1, he1⟩ := prog_ty hx
  refine copyDecls_ok d1 g hd1 _ fun l' hl' hn' ha' => ⟨slOf 4 l', slOf_ty undDecls szDecl (by rw [hn']; exact (hd1.els undDecls).1) hl', retOf_ret _ _, ?_⟩
  refine find_ok _ s g (slOf_ty undDecls szDecl (by rw [hn']; exact (hd1.els undDecls).1) hl') hs _ ⟨_, _, _, ⟨rfl, rfl, rfl, trivial⟩, r14Find_ok d1 s g hd1 hs _ ⟨_, _, _, ⟨rfl, rfl, rfl, trivial⟩, ?_⟩⟩
  rw [el, ek, slOf_els, ha']
  simp only [beq_self_eq_true, Br_true]
  exact wakes14_ok g _ ⟨_, rfl, hQ⟩
end Go.Proofs.YtgmapdcdmomioaaGreatDoor.Pa
