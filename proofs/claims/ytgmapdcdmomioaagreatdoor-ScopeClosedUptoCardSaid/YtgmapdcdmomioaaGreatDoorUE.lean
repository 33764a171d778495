/- Scope: the law ScopeFree. Scope: which names are wrong first, told plainly. What functions of the program do, printed by wip/tools/sx/sx.py. Scope: the program's look at declared types. -/
import Derived.Test.YtgmapdcdmomioaaGreatDoorUA
import Derived.Test.YtgmapdcdmomioaaGreatDoorRE
import Derived.Test.YtgmapdcdmomioaaGreatDoorRI
import Derived.Test.YtgmapdcdmomioaaGreatDoorRV
set_option linter.all false
set_option autoImplicit false
set_option maxRecDepth 100000
namespace Go.Proofs.YtgmapdcdmomioaaGreatDoor.Pa
open Go Go.Proofs.YtgmapdcdmomioaaGreatDoor.Am
theorem gput_new1 {g : Glob} {c x : Dat} (h1 : x.one = true) : GPut (gne g [c]) g.boxes.length 0 1 ∧ gu (gne g [c]) g.boxes.length 0 x = gne g [x] := by
  obtain ⟨a, b⟩ := gput_one (gnw g [c]) h1
  exact ⟨a, b.trans (by simp [gne])⟩
theorem scopeFree_ok {x : Dat} {g : Glob} {Qf : OGP} (hx : Ha TT 27 x) (hz : szx (ax x) ≤ 2 ^ 26) (hQ : ∀ X v g', Ha TT 61 X → elO X = (fE (ax x) [] []).map .str → Rt v X → Qf (.val v) g') : EvF TT 40 [x] g Qf := by
  refine w40 hx (w40_1 ?_)
  obtain ⟨a1, a2⟩ := gput_new1 (g := gne (gm g) [Dat.nil, Dat.map (some g.boxes.length)]) (c := Dat.ptr none) (x := Dat.ptr (some ((gm g).boxes.length, 0))) rfl
  rw [a2]
  refine ⟨a1, w40_2 (w40_3 ?_)⟩
  generalize hg2 : gne (gne (gm g) [Dat.nil, Dat.map (some g.boxes.length)]) [Dat.ptr (some ((gm g).boxes.length, 0))] = g2
  obtain ⟨b1, b2⟩ := gput_new1 (g := gm (gne g2 [Dat.nil])) (c := Dat.map none) (x := Dat.map (some (gne g2 [Dat.nil]).boxes.length)) rfl
  rw [b2]
  refine ⟨b1, w40_4 (w40_5 ?_)⟩
  generalize hg5 : gne (gm (gne g2 [Dat.nil])) [Dat.map (some (gne g2 [Dat.nil]).boxes.length)] = g5
  generalize hV : (⟨(gne (gm g) [Dat.nil, Dat.map (some g.boxes.length)]).boxes.length, (gm g).boxes.length, g.boxes.length, (gm (gne g2 [Dat.nil])).boxes.length, (gne g2 [Dat.nil]).boxes.length, g2.boxes.length, g5.boxes.length, .nil, g.toks.length⟩ : FEnv) = V
  obtain ⟨c1, c2⟩ := gput_new1 (g := g5) (c := Dat.nilFn) (x := Dat.clo 89 V.caps) rfl
  have hcaps : [Dat.ptr (some ((gne (gm g) [Dat.nil, Dat.map (some g.boxes.length)]).boxes.length, 0)), Dat.ptr (some ((gm (gne g2 [Dat.nil])).boxes.length, 0)), Dat.ptr (some (g2.boxes.length, 0)), Dat.ptr (some (g5.boxes.length, 0))] = V.caps := by rw [← hV]; rfl
  rw [hcaps, c2]
  refine ⟨c1, w40_6 ?_⟩
  have hb : (gne g5 [Dat.clo 89 V.caps]).boxes = g.boxes ++ [.map [] 0, .cells [.d .nil, .d (.map (some g.boxes.length))], .cells [.d (.ptr (some (g.boxes.length + 1, 0)))], .cells [.d .nil], .map [] 0, .cells [.d (.map (some (g.boxes.length + 4)))], .cells [.d (.clo 89 V.caps)]] := by
    subst hg5 hg2
    simp [gne, gm, List.append_assoc]
  have ht : (gne g5 [Dat.clo 89 V.caps]).toks = g.toks := by
    subst hg5 hg2
    rfl
  have l2 : g2.boxes.length = g.boxes.length + 3 := by subst hg2; simp [gne, gm]
  have l5 : g5.boxes.length = g.boxes.length + 6 := by subst hg5; simp [gne, gm, l2]
  have eV : V = ⟨g.boxes.length + 2, g.boxes.length + 1, g.boxes.length, g.boxes.length + 5, g.boxes.length + 4, g.boxes.length + 3, g.boxes.length + 6, .nil, g.toks.length⟩ := by
    rw [← hV]
    simp only [gnew_len, gmnew_len, l2, l5]
  have hVok : V.Ok := by
    rw [eV]
    exact ⟨by simp⟩
  have at_ : ∀ j, (gne g5 [Dat.clo 89 V.caps]).boxes[g.boxes.length + j]? = ([.map [] 0, .cells [.d .nil, .d (.map (some g.boxes.length))], .cells [.d (.ptr (some (g.boxes.length + 1, 0)))], .cells [.d .nil], .map [] 0, .cells [.d (.map (some (g.boxes.length + 4)))], .cells [.d (.clo 89 V.caps)]] : List GBox)[j]? := fun j => by
    rw [hb, List.getElem?_append_right (by omega), Nat.add_sub_cancel_left]
  have h2 : V.ps = g.boxes.length + 2 := by rw [eV]
  have h1 : V.p0 = g.boxes.length + 1 := by rw [eV]
  have h0 : V.mb = g.boxes.length := by rw [eV]
  have h5 : V.pm = g.boxes.length + 5 := by rw [eV]
  have h4 : V.mm = g.boxes.length + 4 := by rw [eV]
  have h3 : V.po = g.boxes.length + 3 := by rw [eV]
  have h6 : V.pl = g.boxes.length + 6 := by rw [eV]
  have hD : V.D = .nil := by rw [eV]
  have hB : V.b = g.toks.length := by rw [eV]
  have empty : EsIs true [] 0 (cntF (cB [])) := ⟨(fun e h => by cases h), (fun e h => by cases h), List.Pairwise.nil, List.Pairwise.nil, fun k x => ⟨fun h => (by cases k <;> simp [cntF, cB] at h), fun ⟨e, h, _⟩ => (by cases h)⟩⟩
  have st : FSt V (gne g5 [Dat.clo 89 V.caps]) (cB []) [] 0 := by
    refine ⟨⟨?_, ?_, ?_, ?_⟩, ⟨[], 0, ?_, empty⟩, ⟨cB [], ⟨[], 0, ?_, empty⟩, fun s => by simp [cB], fun s => by simp [cB]⟩, ⟨.nil, ?_, Gr.nil _ _⟩, ?_, (fun s h => by cases h), Nat.le_refl _⟩
    · rw [h2, h1, at_]; rfl
    · unfold SB; rw [h1, h0, hD, at_]; rfl
    · rw [h5, h4, at_]; rfl
    · rw [h6, at_]; rfl
    · rw [h0]; exact at_ 0
    · rw [h4, at_]; rfl
    · rw [h3, at_]; rfl
    · rw [hB, ht]; exact Nat.le_refl _
  obtain ⟨fd, hfe, hfa⟩ := undFe
  have hpl : g5.boxes.length = V.pl := by rw [h6, l5]
  rw [hpl]
  refine ⟨_, _, gokD hfe sizeFe hfa st.fix.l rfl, look_ok _ hVok (Nat.lt_succ_self _) hx st (by simp only [List.length_nil]; omega) (by omega) fun g' st' hk => ⟨trivial, ?_⟩⟩
  obtain ⟨X, x1, x2⟩ := st'.res
  have hl := freeE_len (ax x) [] []
  simp only [List.length_nil] at hl
  have hty := x2.ty (by omega) st'.strs
  rw [show g2.boxes.length = V.po from by rw [h3, l2]]
  exact ⟨X, hty, gokD uS siS rfl x1 rfl, fun v hv => hQ X v g' hty x2.els hv⟩
theorem small_ok {x : Dat} {g : Glob} {Qf : OGP} (hx : Ha TT 27 x) (hQ : ∀ b : Bool, (b = true → szx (ax x) ≤ 1200) → Qf (.val (.d (.bool b))) g) : EvF TT 38 [x] g Qf := by
  obtain ⟨k1, s1, r1, v1, a1, b1, p1, rfl, hs1, hr1, t1, u1⟩ := exr hx
  refine w38 hx (refSize_ok _ g (ty_prog (.nil _ (by rw [uD]; rfl)) hx) _ ⟨_, rfl, hQ _ fun h => ?_⟩)
  have h := of_decide_eq_true h
  have e : (abP (.agg [Dat.nil, .int .i64 k1, .str s1, .str r1, .int .i64 v1, a1, b1, .int .i64 p1])).e = ax (.agg [.int .i64 k1, .str s1, .str r1, .int .i64 v1, a1, b1, .int .i64 p1]) := rfl
  have h : upto 0 (szx (abP (.agg [Dat.nil, .int .i64 k1, .str s1, .str r1, .int .i64 v1, a1, b1, .int .i64 p1])).e) ≤ 1200 := h
  rw [e] at h
  unfold upto at h
  repeat' split at h
  all_goals omega
end Go.Proofs.YtgmapdcdmomioaaGreatDoor.Pa
namespace Go.Proofs.YtgmapdcdmomioaaGreatDoor.Pa
open Go Go.Proofs.YtgmapdcdmomioaaGreatDoor.Am
def cnFs (s : Str) : List Cn → Option Nat
  | [] => none
  | c :: l => bif c.s == s then some c.fs.length else cnFs s l
def dcFs (s : Str) : List Dc → Option Nat
  | [] => none
  | d :: l => match cnFs s d.cs with
    | some n => some n
    | none => dcFs s l
def dcPs (s : Str) : List Dc → Option Nat
  | [] => none
  | d :: l => bif d.s == s then some d.ps.length else dcPs s l
def declIx (s : Str) : List Dc → Int → Int
  | [], _ => -1
  | d :: l, i => bif d.s == s then i else declIx s l (i + 1)
theorem findCn_spec (s : Str) : ∀ (l : List Cn) (i : Int), (∃ (k : Nat) (c : Cn), findCn s l i = some (i + k) ∧ l[k]? = some c ∧ cnFs s l = some c.fs.length) ∨ (findCn s l i = none ∧ cnFs s l = none)
  | [], i => .inr ⟨rfl, rfl⟩
  | c :: l, i => by
    cases h : c.s == s with
    | true => exact .inl ⟨0, c, by simp [findCn, h], rfl, by simp [cnFs, h]⟩
    | false =>
      rcases findCn_spec s l (i + 1) with ⟨k, c', h1, h2, h3⟩ | ⟨h1, h2⟩
      · exact .inl ⟨k + 1, c', by simp only [findCn, h, cond_false, h1]; congr 1; omega, by simpa using h2, by simp [cnFs, h, h3]⟩
      · exact .inr ⟨by simp [findCn, h, h1], by simp [cnFs, h, h2]⟩
theorem findDc_spec (s : Str) : ∀ (l : List Dc) (i : Int), (∃ (k j : Nat) (d : Dc) (c : Cn), findDc s l i = (i + k, (j : Int), true) ∧ l[k]? = some d ∧ d.cs[j]? = some c ∧ dcFs s l = some c.fs.length) ∨ (findDc s l i = (0, 0, false) ∧ dcFs s l = none)
  | [], i => .inr ⟨rfl, rfl⟩
  | d :: l, i => by
    rcases findCn_spec s d.cs 0 with ⟨k, c, h1, h2, h3⟩ | ⟨h1, h2⟩
    · exact .inl ⟨0, k, d, c, by simp [findDc, h1], rfl, h2, by simp [dcFs, h3]⟩
    · rcases findDc_spec s l (i + 1) with ⟨k, j, d', c', q1, q2, q3, q4⟩ | ⟨q1, q2⟩
      · exact .inl ⟨k + 1, j, d', c', by simp only [findDc, h1, q1]; congr 1; omega, by simpa using q2, q3, by simp [dcFs, h2, q4]⟩
      · exact .inr ⟨by simp [findDc, h1, q1], by simp [dcFs, h2, q2]⟩
theorem declIx_spec (s : Str) : ∀ (l : List Dc) (i : Nat), (∃ (k : Nat) (d : Dc), declIx s l i = ((i + k : Nat) : Int) ∧ l[k]? = some d ∧ dcPs s l = some d.ps.length) ∨ (declIx s l i = -1 ∧ dcPs s l = none)
  | [], i => .inr ⟨rfl, rfl⟩
  | d :: l, i => by
    cases h : d.s == s with
    | true => exact .inl ⟨0, d, by simp [declIx, h], rfl, by simp [dcPs, h]⟩
    | false =>
      rcases declIx_spec s l (i + 1) with ⟨k, d', h1, h2, h3⟩ | ⟨h1, h2⟩
      · refine .inl ⟨k + 1, d', ?_, by simpa using h2, by simp [dcPs, h, h3]⟩
        simp only [declIx, h, cond_false]
        rw [show ((i : Int) + 1) = ((i + 1 : Nat) : Int) from by omega, h1]
        omega
      · refine .inr ⟨?_, by simp [dcPs, h, h2]⟩
        simp only [declIx, h, cond_false]
        rw [show ((i : Int) + 1) = ((i + 1 : Nat) : Int) from by omega, h1]
def dupS (acc : List Str) : List Str → Bool
  | [] => false
  | x :: xs => acc.contains x || dupS (acc ++ [x]) xs
def consBad (bf : List Dc) (acc : List Str) : List Cn → Bool
  | [] => false
  | c :: cs => (dcFs c.s bf).isSome || (acc.contains c.s || consBad bf (acc ++ [c.s]) cs)
def sInt : Str := [105, 110, 116]
def declBad (bf : List Dc) (d : Dc) : Bool := d.s == sInt || (bf.any (fun e => e.s == d.s) || (dupS [] d.ps || consBad bf [] d.cs))
def fB (bf : List Dc) : List Dc → Option Int
  | [] => none
  | d :: ds => bif declBad bf d then some d.p else fB (bf ++ [d]) ds
mutual
def typedT (l : List Dc) (ps : List Str) : Ty → Bool
  | .mk k s _ a => bif k == 2 then ps.contains s else bif k == 4 then (match dcPs s l with | none => false | some m => m == a.length && tye l ps a) else tye l ps a
def tye (l : List Dc) (ps : List Str) : List Ty → Bool
  | [] => true
  | t :: ts => typedT l ps t && tye l ps ts
end
def consTy (l : List Dc) (ps : List Str) : List Cn → Bool
  | [] => true
  | c :: cs => tye l ps c.fs && consTy l ps cs
def fir (l : List Dc) : List Dc → Option Int
  | [] => none
  | d :: ds => bif consTy l d.ps d.cs then fir l ds else some d.p
def conOk (l : List Dc) (s : Str) (n : Nat) : Bool := dcFs s l == some n
inductive PR where
  | bad (p : Int)
  | ok (l : List Str)
mutual
def patF (l : List Dc) : Pt → List Str → PR
  | .mk k s _ a p, ns => bif k == 2 then (bif ns.contains s then .bad p else patFs l a (ns ++ [s])) else bif k == 4 && !(conOk l s a.length) then .bad p else patFs l a ns
def patFs (l : List Dc) : List Pt → List Str → PR
  | [], ns => .ok ns
  | x :: xs, ns => match patF l x ns with
    | .bad p => .bad p
    | .ok ns' => patFs l xs ns'
end
def nam (l : List Dc) (k : Int) (s r : Str) (b : List Pt) (i : Nat) : PR :=
  bif k == 7 && decide (0 < i) then (match b[i - 1]? with | some x => patF l x [] | none => .ok []) else .ok (bn k s r b i)
mutual
def exprF (l : List Dc) : Ex' → List Str → Option Int
  | .mk k s r _ a b p, bd => bif k == 1 && !(bd.contains s) then some p else bif k == 8 && !(conOk l s a.length) then some p else exprFs l (nam l k s r b) a 0 bd
def exprFs (l : List Dc) (nm : Nat → PR) : List Ex' → Nat → List Str → Option Int
  | [], _, _ => none
  | x :: xs, i, bd => match nm i with
    | .bad p => some p
    | .ok ns => match exprF l x (bd ++ ns) with
      | some p => some p
      | none => exprFs l nm xs (i + 1) bd
end
def chkNames (P : Pg) : Int × Int :=
  match fB (baseL.map abD) P.ds with
  | some p => (141, p)
  | none => match fir (alD P) P.ds with
    | some p => (141, p)
    | none => match exprF (alD P) P.e [] with
      | some p => (140, p)
      | none => (0, 0)
def chk14 (P : Pg) : Int × Int := bif rCheckP P then chkNames P else (1, 0)
def consF (sc : List Str) : List Cn → Option (List Str)
  | [] => some sc
  | c :: cs => bif sc.contains c.s then none else consF (sc ++ [c.s]) cs
def pBad (st sc : List Str) : List Dc → Option Int
  | [] => none
  | d :: ds => bif st.contains d.s then some d.p else bif dupS [] d.ps then some d.p else match consF sc d.cs with
    | none => some d.p
    | some sc' => pBad (st ++ [d.s]) sc' ds
theorem beq_sym (a b : Str) : (a == b) = (b == a) := by rw [Bool.eq_iff_iff, beq_iff_eq, beq_iff_eq]; exact ⟨Eq.symm, Eq.symm⟩
theorem any_names (bf : List Dc) (s : Str) : bf.any (fun e => e.s == s) = (bf.map (·.s)).contains s := by
  induction bf with
  | nil => rfl
  | cons e bf ih => rw [List.any_cons, List.map_cons, List.contains_cons, ih, beq_sym]
theorem cnFs_mem (s : Str) (l : List Cn) : (cnFs s l).isSome = (l.map (·.s)).contains s := by
  induction l with
  | nil => rfl
  | cons c l ih =>
    rw [List.map_cons, List.contains_cons, ← ih]
    rw [beq_sym s c.s]
    cases h : c.s == s <;> simp [cnFs, h]
def coN (l : List Dc) : List Str := l.flatMap fun d => d.cs.map (·.s)
theorem dcFs_mem (s : Str) (l : List Dc) : (dcFs s l).isSome = (coN l).contains s := by
  induction l with
  | nil => rfl
  | cons d l ih =>
    have : coN (d :: l) = d.cs.map (·.s) ++ coN l := by simp [coN]
    rw [this, List.contains_append, ← ih, ← cnFs_mem]
    show (match cnFs s d.cs with | some n => some n | none => dcFs s l).isSome = _
    cases cnFs s d.cs <;> simp
theorem cot (a b : List Str) (s : Str) : (a ++ b).contains s = (a.contains s || b.contains s) := List.contains_append ..
theorem consF_spec (bf : List Dc) (sc : List Str) (hc : ∀ s, sc.contains s = (coN bf).contains s) : ∀ (cs : List Cn) (acc : List Str), consF (sc ++ acc) cs = if consBad bf acc cs then none else some (sc ++ acc ++ cs.map (·.s))
  | [], acc => by simp [consF, consBad]
  | c :: cs, acc => by
    have ih := consF_spec bf sc hc cs (acc ++ [c.s])
    unfold consF consBad
    rw [cot, hc, dcFs_mem, List.append_assoc, ih]
    cases (coN bf).contains c.s <;> cases acc.contains c.s <;> simp
theorem pBad_spec : ∀ (ds bf : List Dc) (st sc : List Str), (∀ s, st.contains s = (s == sInt || (bf.map (·.s)).contains s)) → (∀ s, sc.contains s = (coN bf).contains s) → pBad st sc ds = fB bf ds
  | [], bf, st, sc, _, _ => rfl
  | d :: ds, bf, st, sc, h1, h2 => by
    unfold pBad fB declBad
    have e1 := any_names bf d.s
    have hcf := consF_spec bf sc h2 d.cs []
    rw [List.append_nil] at hcf
    rw [h1, hcf, e1]
    have key : consBad bf [] d.cs = false → pBad (st ++ [d.s]) (sc ++ d.cs.map (·.s)) ds = fB (bf ++ [d]) ds := fun hb => by
      refine pBad_spec ds (bf ++ [d]) _ _ (fun s => ?_) (fun s => ?_)
      · rw [cot, h1, List.map_append, cot, Bool.or_assoc]
        rfl
      · have : coN (bf ++ [d]) = coN bf ++ d.cs.map (·.s) := by simp [coN]
        rw [this, cot, cot, h2]
    cases d.s == sInt <;> cases (bf.map (·.s)).contains d.s <;> cases dupS [] d.ps <;> cases hE : consBad bf [] d.cs <;> first | rfl | exact key hE
theorem firstBad_app : ∀ (a b bf : List Dc), fB bf a = none → fB bf (a ++ b) = fB (bf ++ a) b
  | [], b, bf, _ => by simp
  | d :: a, b, bf, h => by
    unfold fB at h
    cases hd : declBad bf d with
    | true => rw [hd] at h; cases h
    | false =>
      rw [hd] at h
      have := firstBad_app a b (bf ++ [d]) h
      show (bif declBad bf d then some d.p else fB (bf ++ [d]) (a ++ b)) = _
      rw [hd, cond_false, this, List.append_assoc]
      rfl
theorem base_good : fB [] (baseL.map abD) = none := by decide
theorem pBad_all (P : Pg) : pBad [sInt] [] (alD P) = fB (baseL.map abD) P.ds := by
  rw [pBad_spec (alD P) [] [sInt] [] (fun s => rfl) (fun s => rfl)]
  unfold alD
  rw [firstBad_app _ _ _ base_good, List.nil_append]
theorem firstTy_all (P : Pg) : fir (alD P) (alD P) = fir (alD P) P.ds := by
  have h : ∀ l : List Dc, l = alD P → fir l (alD P) = fir l P.ds := fun l hl => by
    have hp : dcPs [108, 105, 115, 116] l = some 1 := by rw [hl]; rfl
    show fir l (baseL.map abD ++ P.ds) = _
    have e : baseL.map abD = [⟨[117, 110, 105, 116], [], [⟨[85, 110, 105, 116], []⟩], 0⟩, ⟨[98, 111, 111, 108], [], [⟨[70, 97, 108, 115, 101], []⟩, ⟨[84, 114, 117, 101], []⟩], 0⟩,
        ⟨[108, 105, 115, 116], [[97]], [⟨[78, 105, 108], []⟩, ⟨[67, 111, 110, 115], [.mk 2 [97] 0 [], .mk 4 [108, 105, 115, 116] 0 [.mk 2 [97] 0 []]]⟩], 0⟩] := rfl
    rw [e]
    simp [fir, consTy, tye, typedT, hp]
  exact h _ rfl
end Go.Proofs.YtgmapdcdmomioaaGreatDoor.Pa
namespace Go.Proofs.YtgmapdcdmomioaaGreatDoor.Pa
open Go Go.Proofs.YtgmapdcdmomioaaGreatDoor.Am
def lo145 : List CuI := []
theorem w145 {b0 : Bool} {n1 : Int} {n2 : Int} {g : Glob} {Qf : OGP} 
    (h : Br (!b0) (Qf (.panic (.iface 106 (.agg [.int .i64 (intOf (.int .i64 n1)), .int .i64 (intOf (.int .i64 n2))]))) g) (Qf (.val (.tuple [])) g)) :
    EvF TT 145 [.bool b0, .int .i64 n1, .int .i64 n2] g Qf :=
  su (rk := rk) (fn := Tryz.f145) (loops := lo145) (joins := []) (n := 100000) (args := [(4, .bool b0), (30, .int .i64 n1), (3, .int .i64 n2)]) rfl rfl rfl rfl ⟨tyBool rfl, tyI rfl, tyI rfl, trivial⟩ (by kernel_rfl) h
def lo146 : List CuI := []
theorem w146 {x0 : Dat} {s1 : List UInt8} {g : Glob} {Qf : OGP} (h0 : Ha TT 61 x0) (h1 : s1.length ≤ 2 ^ 40)
    (h : EvF TT 204 [x0, .str s1] g (KQ Qf fun v g' => ∃ n, v = .d (.int .i64 n) ∧ Qf (.val (.d (.bool (decide (0 ≤ n))))) g')) :
    EvF TT 146 [x0, .str s1] g Qf :=
  su (rk := rk) (fn := Tryz.f146) (loops := lo146) (joins := []) (n := 100000) (args := [(61, x0), (9, .str s1)]) rfl rfl rfl rfl ⟨h0, tyStr rfl h1, trivial⟩ (by kernel_rfl) h
def L204_2 (x0 : Dat) (s1 : List UInt8) (n7 : Int) (n8 : Int) (g : Glob) (Qf : OGP) : Prop := CP TT Tryz.f204 [1, 0, 1, 0] Qf (mkC TT 204 Tryz.f204 2 [(0, .v 61 (x0)), (1, .v 9 (.str s1)), (7, .v 3 (.int .i64 n7)), (8, .v 3 (.int .i64 n8))] [] g)
def lo204 : List CuI := [⟨2, [(0, .keep), (1, .keep), (7, .keep), (8, .keep)], []⟩]
theorem w204 {x0 : Dat} {s1 : List UInt8} {g : Glob} {Qf : OGP} (h0 : Ha TT 61 x0) (h1 : s1.length ≤ 2 ^ 40)
    (h : L204_2 x0 s1 (↑(elO x0).length : Int) 0 g Qf) :
    EvF TT 204 [x0, .str s1] g Qf :=
  su (rk := rk) (fn := Tryz.f204) (loops := lo204) (joins := []) (n := 100000) (args := [(61, x0), (9, .str s1)]) rfl rfl rfl rfl ⟨h0, tyStr rfl h1, trivial⟩ (by kernel_rfl) h
theorem w204_2 {x0 : Dat} {s1 : List UInt8} {n7 : Int} {n8 : Int} {g : Glob} {Qf : OGP} 
    (h : Br (decide (n8 < n7)) (InB n8 (elO x0).length ∧ Br (s1 == strOf (fld (gtE (elO x0) n8) 0)) (Qf (.val (.d (.int .i64 n8))) g) (L204_2 x0 s1 n7 (IntKind.i64.wrap (n8 + 1)) g Qf)) (Qf (.val (.d (.int .i64 (-1)))) g)) :
    L204_2 x0 s1 n7 n8 g Qf := sxc (rk := rk) (loops := lo204) (joins := []) (n := 100000) (by kernel_rfl) h
def lo205 : List CuI := []
theorem w205 {x0 : Dat} {p1 : Nat} {g : Glob} {Qf : OGP} (h0 : Ha TT 76 x0)
    (h : ∃ s, s.length.le 1099511627776 ∧ GOk TT 9 g p1 1 (.str s) ∧ Qf (.val (.d (.bool (strOf (fld x0 0) == s)))) g) :
    EvF TT 205 [x0, .ptr (some (p1, 0))] g Qf :=
  su (rk := rk) (fn := Tryz.f205) (loops := lo205) (joins := []) (n := 100000) (args := [(76, x0), (0, .ptr (some (p1, 0)))]) rfl rfl rfl rfl ⟨h0, tyPtr0 rfl, trivial⟩ (by kernel_rfl) h
def lo206 : List CuI := []
theorem w206 {x0 : Dat} {p1 : Nat} {p2 : Nat} {g : Glob} {Qf : OGP} (h0 : Ha TT 94 x0)
    (h : ∃ i o, GOk TT 107 g p1 0 (.ptr (some (i, o))) ∧ ∃ x, Ha TT 76 x ∧ GOk TT 76 g p2 0 x ∧ EvF TT 147 [.ptr (some (i, o)), x0, x] g (KQ Qf fun v g' => ∃ b, v = .d (.bool b) ∧ Qf (.val (.d (.bool !b))) g')) :
    EvF TT 206 [x0, .ptr (some (p1, 0)), .ptr (some (p2, 0))] g Qf :=
  su (rk := rk) (fn := Tryz.f206) (loops := lo206) (joins := []) (n := 100000) (args := [(94, x0), (0, .ptr (some (p1, 0))), (0, .ptr (some (p2, 0)))]) rfl rfl rfl rfl ⟨h0, tyPtr0 rfl, tyPtr0 rfl, trivial⟩ (by kernel_rfl) h
def L147_1 (p3 : Nat) (p4 : Nat) (p5 : Nat) (g : Glob) (Qf : OGP) : Prop := CP TT Tryz.f147 [1] Qf (mkC TT 147 Tryz.f147 3 [(3, .v 0 (.ptr (some (p3, 0)))), (4, .v 0 (.ptr (some (p4, 0)))), (5, .v 0 (.ptr (some (p5, 0))))] [] g)
def L147_8 (p3 : Nat) (p4 : Nat) (p5 : Nat) (g : Glob) (Qf : OGP) : Prop := CP TT Tryz.f147 [1, 1] Qf (mkC TT 147 Tryz.f147 3 [(3, .v 0 (.ptr (some (p3, 0)))), (4, .v 0 (.ptr (some (p4, 0)))), (5, .v 0 (.ptr (some (p5, 0))))] [] g)
def lo147 : List CuI := []
def jo147 : List CuI := [⟨1, [(3, .keep), (4, .keep), (5, .keep)], []⟩, ⟨8, [(3, .keep), (4, .keep), (5, .keep)], []⟩]
theorem w147 {p0 : Nat} {x1 : Dat} {x2 : Dat} {g : Glob} {Qf : OGP} (h1 : Ha TT 94 x1) (h2 : Ha TT 76 x2)
    (h : L147_1 g.boxes.length (gne g [.ptr (some (p0, 0))]).boxes.length (gne (gne g [.ptr (some (p0, 0))]) [.int .i64 (intOf (fld x1 0)), .str (strOf (fld x1 1)), .int .i64 (intOf (fld x1 2)), fld x1 3]).boxes.length (gne (gne (gne g [.ptr (some (p0, 0))]) [.int .i64 (intOf (fld x1 0)), .str (strOf (fld x1 1)), .int .i64 (intOf (fld x1 2)), fld x1 3]) [.str (strOf (fld x2 0)), fld x2 1, fld x2 2, .int .i64 (intOf (fld x2 3))]) Qf) :
    EvF TT 147 [.ptr (some (p0, 0)), x1, x2] g Qf :=
  su (rk := rk) (fn := Tryz.f147) (loops := lo147) (joins := jo147) (n := 100000) (args := [(107, .ptr (some (p0, 0))), (94, x1), (76, x2)]) rfl rfl rfl rfl ⟨tyPtr rfl, h1, h2, trivial⟩ (by kernel_rfl) h
theorem w147_1 {p3 : Nat} {p4 : Nat} {p5 : Nat} {g : Glob} {Qf : OGP} 
    (h : ∃ n, GOk TT 3 g p4 0 (.int .i64 n) ∧ Br (n == 2) (∃ x, Ha TT 61 x ∧ GOk TT 61 g p5 1 x ∧ ∃ s, s.length.le 1099511627776 ∧ GOk TT 9 g p4 1 (.str s) ∧ EvF TT 146 [x, .str s] g (KQ Qf fun v g' => ∃ b, v = .d (.bool b) ∧ Qf (.val (.d (.bool b))) g')) (Br (n == 4) (∃ i o, GOk TT 107 g p3 0 (.ptr (some (i, o))) ∧ ∃ x, Ha TT 23 x ∧ GOk TT 23 g i (o + 0) x ∧ EvF TT 135 [x, .clo 205 [.ptr (some (p4, 0))]] g (KQ Qf fun v g' => ∃ n, v = .d (.int .i64 n) ∧ Br (decide (n < 0)) (Qf (.val (.d (.bool false))) g') (∃ i o, GOk TT 107 g' p3 0 (.ptr (some (i, o))) ∧ ∃ x, Ha TT 23 x ∧ GOk TT 23 g' i (o + 0) x ∧ InB n (elO x).length ∧ ∃ x_1, Ha TT 89 x_1 ∧ GOk TT 89 g' p4 3 x_1 ∧ Br ((↑(elO (fld (gtE (elO x) n) 1)).length : Int) != (↑(elO x_1).length : Int)) (Qf (.val (.d (.bool false))) g') (L147_8 p3 p4 p5 g' Qf)))) (L147_8 p3 p4 p5 g Qf))) :
    L147_1 p3 p4 p5 g Qf := sxc (rk := rk) (loops := lo147) (joins := jo147) (n := 100000) (by kernel_rfl) h
theorem w147_8 {p3 : Nat} {p4 : Nat} {p5 : Nat} {g : Glob} {Qf : OGP} 
    (h : ∃ x, Ha TT 89 x ∧ GOk TT 89 g p4 3 x ∧ EvF TT 137 [x, .clo 206 [.ptr (some (p3, 0)), .ptr (some (p5, 0))]] g (KQ Qf fun v g' => ∃ b, v = .d (.bool b) ∧ Qf (.val (.d (.bool !b))) g')) :
    L147_8 p3 p4 p5 g Qf := sxc (rk := rk) (loops := lo147) (joins := jo147) (n := 100000) (by kernel_rfl) h
def lo148 : List CuI := []
theorem w148 {p0 : Nat} {s1 : List UInt8} {n2 : Int} {n3 : Int} {g : Glob} {Qf : OGP} (h1 : s1.length ≤ 2 ^ 40)
    (h : ∃ x, Ha TT 23 x ∧ GOk TT 23 g p0 0 x ∧ EvF TT 34 [x, .str s1] g (KQ Qf fun v g' => ∃ n n_1 b, Ret v [.int .i64 n, .int .i64 n_1, .bool b] ∧ Br b (∃ x, Ha TT 23 x ∧ GOk TT 23 g' p0 0 x ∧ InB n (elO x).length ∧ InB n_1 (elO (fld (gtE (elO x) n) 2)).length ∧ EvF TT 145 [.bool ((↑(elO (fld (gtE (elO (fld (gtE (elO x) n) 2)) n_1) 1)).length : Int) == n2), .int .i64 140, .int .i64 n3] g' (KQ Qf fun v g' => Ret v [] ∧ Qf (.val (.tuple [])) g')) (EvF TT 145 [.bool false, .int .i64 140, .int .i64 n3] g' (KQ Qf fun v g' => Ret v [] ∧ Qf (.val (.tuple [])) g')))) :
    EvF TT 148 [.ptr (some (p0, 0)), .str s1, .int .i64 n2, .int .i64 n3] g Qf :=
  su (rk := rk) (fn := Tryz.f148) (loops := lo148) (joins := []) (n := 100000) (args := [(107, .ptr (some (p0, 0))), (9, .str s1), (3, .int .i64 n2), (3, .int .i64 n3)]) rfl rfl rfl rfl ⟨tyPtr rfl, tyStr rfl h1, tyI rfl, tyI rfl, trivial⟩ (by kernel_rfl) h
def L149_8 (p0 : Nat) (p2 : Nat) (x43 : Dat) (n44 : Int) (n45 : Int) (g : Glob) (Qf : OGP) : Prop := CP TT Tryz.f149 [1, 1, 1, 0] Qf (mkC TT 149 Tryz.f149 3 [(0, .v 107 (.ptr (some (p0, 0)))), (2, .v 166 (.ptr (some (p2, 0)))), (43, .v 25 (x43)), (44, .v 3 (.int .i64 n44)), (45, .v 3 (.int .i64 n45))] [] g)
def lo149 : List CuI := [⟨8, [(0, .keep), (2, .keep), (43, .keep), (44, .keep), (45, .keep)], []⟩]
theorem w149 {p0 : Nat} {x1 : Dat} {p2 : Nat} {g : Glob} {Qf : OGP} (h1 : Ha TT 127 x1)
    (h : Br (intOf (fld x1 0) == 2) (∃ x, Ha TT 61 x ∧ GOk TT 61 g p2 0 x ∧ EvF TT 146 [x, .str (strOf (fld x1 1))] g (KQ Qf fun v g' => ∃ b, v = .d (.bool b) ∧ EvF TT 145 [.bool !b, .int .i64 140, .int .i64 (intOf (fld x1 4))] g' (KQ Qf fun v g' => Ret v [] ∧ ∃ x, Ha TT 61 x ∧ GOk TT 61 g' p2 0 x ∧ GSame TT 61 p2 0 g' (gto g' 1 1) ∧ Fits ((elO x).length + [Dat.str (strOf (fld x1 1))].length) 16 ∧ ∃ r g'_1, gapp 1 x [.str (strOf (fld x1 1))] (gto g' 1 1) = some (r, g'_1) ∧ GPut g'_1 p2 0 1 ∧ L149_8 p0 p2 (fld x1 3) (↑(elO (fld x1 3)).length : Int) 0 (gu g'_1 p2 0 r) Qf))) (Br (intOf (fld x1 0) == 4) (EvF TT 148 [.ptr (some (p0, 0)), .str (strOf (fld x1 1)), .int .i64 (↑(elO (fld x1 3)).length : Int), .int .i64 (intOf (fld x1 4))] g (KQ Qf fun v g' => Ret v [] ∧ L149_8 p0 p2 (fld x1 3) (↑(elO (fld x1 3)).length : Int) 0 g' Qf)) (L149_8 p0 p2 (fld x1 3) (↑(elO (fld x1 3)).length : Int) 0 g Qf))) :
    EvF TT 149 [.ptr (some (p0, 0)), x1, .ptr (some (p2, 0))] g Qf :=
  su (rk := rk) (fn := Tryz.f149) (loops := lo149) (joins := []) (n := 100000) (args := [(107, .ptr (some (p0, 0))), (127, x1), (166, .ptr (some (p2, 0)))]) rfl rfl rfl rfl ⟨tyPtr rfl, h1, tyPtr rfl, trivial⟩ (by kernel_rfl) h
theorem w149_8 {p0 : Nat} {p2 : Nat} {x43 : Dat} {n44 : Int} {n45 : Int} {g : Glob} {Qf : OGP} 
    (h : Br (decide (n45 < n44)) (InB n45 (elO x43).length ∧ EvF TT 149 [.ptr (some (p0, 0)), gtE (elO x43) n45, .ptr (some (p2, 0))] g (KQ Qf fun v g' => Ret v [] ∧ L149_8 p0 p2 x43 n44 (IntKind.i64.wrap (n45 + 1)) g' Qf)) (Qf (.val (.tuple [])) g)) :
    L149_8 p0 p2 x43 n44 n45 g Qf := sxc (rk := rk) (loops := lo149) (joins := []) (n := 100000) (by kernel_rfl) h
def lo150 : List CuI := []
theorem w150 {p0 : Nat} {p1 : Nat} {g : Glob} {Qf : OGP} 
    (h : ∃ i o, GOk TT 107 g p0 0 (.ptr (some (i, o))) ∧ ∃ x, Ha TT 27 x ∧ GOk TT 27 g p1 0 x ∧ EvF TT 81 [.ptr (some (i, o)), x] g (KQ Qf fun v g' => Ret v [] ∧ Qf (.val (.tuple [])) g')) :
    EvF TT 150 [.ptr (some (p0, 0)), .ptr (some (p1, 0))] g Qf :=
  su (rk := rk) (fn := Tryz.f150) (loops := lo150) (joins := []) (n := 100000) (args := [(0, .ptr (some (p0, 0))), (0, .ptr (some (p1, 0)))]) rfl rfl rfl rfl ⟨tyPtr0 rfl, tyPtr0 rfl, trivial⟩ (by kernel_rfl) h
def L81_7 (p2 : Nat) (x34 : Dat) (n35 : Int) (n36 : Int) (y3 : Dat) (g : Glob) (Qf : OGP) : Prop := CP TT Tryz.f81 [1, 1, 1, 0] Qf (mkC TT 81 Tryz.f81 2 [(2, .v 0 (.ptr (some (p2, 0)))), (3, .loc 3 0 0), (34, .v 24 (x34)), (35, .v 3 (.int .i64 n35)), (36, .v 3 (.int .i64 n36))] [(3, .whole 27 y3)] g)
def L81_9 (p2 : Nat) (n4 : Int) (p5 : Nat) (x34 : Dat) (n35 : Int) (n36 : Int) (y3 : Dat) (g : Glob) (Qf : OGP) : Prop := CP TT Tryz.f81 [1, 1, 1, 0, 0, 1, 1, 0, 0, 1] Qf (mkC TT 81 Tryz.f81 2 [(2, .v 0 (.ptr (some (p2, 0)))), (3, .loc 3 0 0), (4, .v 3 (.int .i64 n4)), (5, .v 0 (.ptr (some (p5, 0)))), (34, .v 24 (x34)), (35, .v 3 (.int .i64 n35)), (36, .v 3 (.int .i64 n36))] [(3, .whole 27 y3)] g)
def L81_10 (p2 : Nat) (n4 : Int) (p5 : Nat) (p6 : Nat) (x34 : Dat) (n35 : Int) (n36 : Int) (y3 : Dat) (g : Glob) (Qf : OGP) : Prop := CP TT Tryz.f81 [1, 1, 1, 0, 0, 1, 1, 0, 0, 1, 1] Qf (mkC TT 81 Tryz.f81 2 [(2, .v 0 (.ptr (some (p2, 0)))), (3, .loc 3 0 0), (4, .v 3 (.int .i64 n4)), (5, .v 0 (.ptr (some (p5, 0)))), (6, .v 0 (.ptr (some (p6, 0)))), (34, .v 24 (x34)), (35, .v 3 (.int .i64 n35)), (36, .v 3 (.int .i64 n36))] [(3, .whole 27 y3)] g)
def L81_13 (p2 : Nat) (p5 : Nat) (p6 : Nat) (x34 : Dat) (n35 : Int) (n36 : Int) (y3 : Dat) (g : Glob) (Qf : OGP) : Prop := CP TT Tryz.f81 [1, 1, 1, 0, 0, 1, 1, 0, 0, 1, 1, 1] Qf (mkC TT 81 Tryz.f81 2 [(2, .v 0 (.ptr (some (p2, 0)))), (3, .loc 3 0 0), (5, .v 0 (.ptr (some (p5, 0)))), (6, .v 0 (.ptr (some (p6, 0)))), (34, .v 24 (x34)), (35, .v 3 (.int .i64 n35)), (36, .v 3 (.int .i64 n36))] [(3, .whole 27 y3)] g)
def lo81 : List CuI := [⟨7, [(2, .keep), (3, .keep), (34, .keep), (35, .keep), (36, .keep)], [(3, .whole 27)]⟩]
def jo81 : List CuI := [⟨9, [(2, .keep), (3, .keep), (4, .keep), (5, .keep), (34, .keep), (35, .keep), (36, .keep)], [(3, .whole 27)]⟩, ⟨10, [(2, .keep), (3, .keep), (4, .keep), (5, .keep), (6, .keep), (34, .keep), (35, .keep), (36, .keep)], [(3, .whole 27)]⟩, ⟨13, [(2, .keep), (3, .keep), (5, .keep), (6, .keep), (34, .keep), (35, .keep), (36, .keep)], [(3, .whole 27)]⟩]
theorem w81 {p0 : Nat} {x1 : Dat} {g : Glob} {Qf : OGP} (h1 : Ha TT 27 x1)
    (h : Br (intOf (fld x1 0) == 1) (∃ i o, GOk TT 107 (gne g [.ptr (some (p0, 0))]) g.boxes.length 0 (.ptr (some (i, o))) ∧ ∃ i_1, GOk TT 108 (gne g [.ptr (some (p0, 0))]) i (o + 1) (Dat.map (some i_1)) ∧ ∃ n b, MLook (gne g [.ptr (some (p0, 0))]) (some i_1) (.int .i64 0) (.str (strOf (fld x1 1))) (.int .i64 n) b ∧ EvF TT 145 [.bool (decide (0 < n)), .int .i64 140, .int .i64 (intOf (fld x1 6))] (gne g [.ptr (some (p0, 0))]) (KQ Qf fun v g' => Ret v [] ∧ L81_7 g.boxes.length (fld x1 4) (↑(elO (fld x1 4)).length : Int) 0 x1 g' Qf)) (Br (intOf (fld x1 0) == 8) (∃ i o, GOk TT 107 (gne g [.ptr (some (p0, 0))]) g.boxes.length 0 (.ptr (some (i, o))) ∧ EvF TT 148 [.ptr (some (i, o)), .str (strOf (fld x1 1)), .int .i64 (↑(elO (fld x1 4)).length : Int), .int .i64 (intOf (fld x1 6))] (gne g [.ptr (some (p0, 0))]) (KQ Qf fun v g' => Ret v [] ∧ L81_7 g.boxes.length (fld x1 4) (↑(elO (fld x1 4)).length : Int) 0 x1 g' Qf)) (L81_7 g.boxes.length (fld x1 4) (↑(elO (fld x1 4)).length : Int) 0 x1 (gne g [.ptr (some (p0, 0))]) Qf))) :
    EvF TT 81 [.ptr (some (p0, 0)), x1] g Qf :=
  su (rk := rk) (fn := Tryz.f81) (loops := lo81) (joins := jo81) (n := 100000) (args := [(107, .ptr (some (p0, 0))), (27, x1)]) rfl rfl rfl rfl ⟨tyPtr rfl, h1, trivial⟩ (by kernel_rfl) h
theorem w81_7 {p2 : Nat} {x34 : Dat} {n35 : Int} {n36 : Int} {y3 : Dat} {g : Glob} {Qf : OGP} 
    (h : Br (decide (n36 < n35)) (InB n36 (elO x34).length ∧ GPut (gne g [.int .i64 0, .str [], .str [], .int .i64 0, .nil, .nil, .int .i64 0]) g.boxes.length 0 7 ∧ L81_9 p2 n36 g.boxes.length x34 n35 n36 y3 (gu (gne g [.int .i64 0, .str [], .str [], .int .i64 0, .nil, .nil, .int .i64 0]) g.boxes.length 0 (gtE (elO x34) n36)) Qf) (Qf (.val (.tuple [])) g)) :
    L81_7 p2 x34 n35 n36 y3 g Qf := sxc (rk := rk) (loops := lo81) (joins := jo81) (n := 100000) (by kernel_rfl) h
theorem w81_9 {p2 : Nat} {n4 : Int} {p5 : Nat} {x34 : Dat} {n35 : Int} {n36 : Int} {y3 : Dat} {g : Glob} {Qf : OGP} 
    (h : L81_10 p2 n4 p5 g.boxes.length x34 n35 n36 y3 (gne g [Dat.nil]) Qf) :
    L81_9 p2 n4 p5 x34 n35 n36 y3 g Qf := sxc (rk := rk) (loops := lo81) (joins := jo81) (n := 100000) (by kernel_rfl) h
theorem w81_10 {p2 : Nat} {n4 : Int} {p5 : Nat} {p6 : Nat} {x34 : Dat} {n35 : Int} {n36 : Int} {y3 : Dat} {g : Glob} {Qf : OGP} 
    (h : Br (intOf (fld y3 0) == 7) (Br (decide (0 < n4)) (∃ i o, GOk TT 107 g p2 0 (.ptr (some (i, o))) ∧ InB (IntKind.i64.wrap (n4 - 1)) (elO (fld y3 5)).length ∧ EvF TT 149 [.ptr (some (i, o)), gtE (elO (fld y3 5)) (IntKind.i64.wrap (n4 - 1)), .ptr (some (p6, 0))] g (KQ Qf fun v g' => Ret v [] ∧ L81_13 p2 p5 p6 x34 n35 n36 y3 g' Qf)) (EvF TT 91 [y3, .int .i64 n4] g (KQ Qf fun v g' => ∃ x, Ha TT 61 x ∧ Rt v x ∧ GPut g' p6 0 1 ∧ L81_13 p2 p5 p6 x34 n35 n36 y3 (gu g' p6 0 x) Qf))) (EvF TT 91 [y3, .int .i64 n4] g (KQ Qf fun v g' => ∃ x, Ha TT 61 x ∧ Rt v x ∧ GPut g' p6 0 1 ∧ L81_13 p2 p5 p6 x34 n35 n36 y3 (gu g' p6 0 x) Qf))) :
    L81_10 p2 n4 p5 p6 x34 n35 n36 y3 g Qf := sxc (rk := rk) (loops := lo81) (joins := jo81) (n := 100000) (by kernel_rfl) h
theorem w81_13 {p2 : Nat} {p5 : Nat} {p6 : Nat} {x34 : Dat} {n35 : Int} {n36 : Int} {y3 : Dat} {g : Glob} {Qf : OGP} 
    (h : ∃ i o, GOk TT 107 g p2 0 (.ptr (some (i, o))) ∧ ∃ x, Ha TT 61 x ∧ GOk TT 61 g p6 0 x ∧ EvF TT 90 [.ptr (some (i, o)), x, .clo 150 [.ptr (some (p2, 0)), .ptr (some (p5, 0))]] g (KQ Qf fun v g' => Ret v [] ∧ L81_7 p2 x34 n35 (IntKind.i64.wrap (n36 + 1)) y3 g' Qf)) :
    L81_13 p2 p5 p6 x34 n35 n36 y3 g Qf := sxc (rk := rk) (loops := lo81) (joins := jo81) (n := 100000) (by kernel_rfl) h
def L80_2 (p0 : Nat) (p2 : Nat) (p3 : Nat) (x22 : Dat) (n23 : Int) (n24 : Int) (g : Glob) (Qf : OGP) : Prop := CP TT Tryz.f80 [1, 0, 1, 0] Qf (mkC TT 80 Tryz.f80 1 [(0, .v 107 (.ptr (some (p0, 0)))), (2, .v 108 (.map (some p2))), (3, .v 108 (.map (some p3))), (22, .v 23 (x22)), (23, .v 3 (.int .i64 n23)), (24, .v 3 (.int .i64 n24))] [] g)
def L80_7 (p0 : Nat) (p2 : Nat) (p3 : Nat) (x22 : Dat) (n23 : Int) (n24 : Int) (x42 : Dat) (n43 : Int) (n44 : Int) (y5 : Dat) (g : Glob) (Qf : OGP) : Prop := CP TT Tryz.f80 [1, 0, 1, 0, 0, 1, 1, 0, 0, 1, 1, 1, 0, 1, 0] Qf (mkC TT 80 Tryz.f80 1 [(0, .v 107 (.ptr (some (p0, 0)))), (2, .v 108 (.map (some p2))), (3, .v 108 (.map (some p3))), (5, .loc 5 0 0), (22, .v 23 (x22)), (23, .v 3 (.int .i64 n23)), (24, .v 3 (.int .i64 n24)), (42, .v 61 (x42)), (43, .v 3 (.int .i64 n43)), (44, .v 3 (.int .i64 n44))] [(5, .whole 76 y5)] g)
def L80_12 (p0 : Nat) (p2 : Nat) (p3 : Nat) (x22 : Dat) (n23 : Int) (n24 : Int) (x61 : Dat) (n62 : Int) (n63 : Int) (y5 : Dat) (g : Glob) (Qf : OGP) : Prop := CP TT Tryz.f80 [1, 0, 1, 0, 0, 1, 1, 0, 0, 1, 1, 1, 1, 1, 0] Qf (mkC TT 80 Tryz.f80 1 [(0, .v 107 (.ptr (some (p0, 0)))), (2, .v 108 (.map (some p2))), (3, .v 108 (.map (some p3))), (5, .loc 5 0 0), (22, .v 23 (x22)), (23, .v 3 (.int .i64 n23)), (24, .v 3 (.int .i64 n24)), (61, .v 74 (x61)), (62, .v 3 (.int .i64 n62)), (63, .v 3 (.int .i64 n63))] [(5, .whole 76 y5)] g)
def L80_19 (p0 : Nat) (x85 : Dat) (n86 : Int) (n87 : Int) (g : Glob) (Qf : OGP) : Prop := CP TT Tryz.f80 [1, 1, 1, 0] Qf (mkC TT 80 Tryz.f80 1 [(0, .v 107 (.ptr (some (p0, 0)))), (85, .v 23 (x85)), (86, .v 3 (.int .i64 n86)), (87, .v 3 (.int .i64 n87))] [] g)
def L80_22 (p0 : Nat) (x85 : Dat) (n86 : Int) (n87 : Int) (x92 : Dat) (n93 : Int) (n94 : Int) (y11 : Dat) (g : Glob) (Qf : OGP) : Prop := CP TT Tryz.f80 [1, 1, 1, 0, 0, 1, 1, 0, 0, 1, 1, 0] Qf (mkC TT 80 Tryz.f80 1 [(0, .v 107 (.ptr (some (p0, 0)))), (11, .loc 11 0 0), (85, .v 23 (x85)), (86, .v 3 (.int .i64 n86)), (87, .v 3 (.int .i64 n87)), (92, .v 74 (x92)), (93, .v 3 (.int .i64 n93)), (94, .v 3 (.int .i64 n94))] [(11, .whole 76 y11)] g)
def L80_25 (p0 : Nat) (x85 : Dat) (n86 : Int) (n87 : Int) (x92 : Dat) (n93 : Int) (n94 : Int) (x99 : Dat) (n100 : Int) (n101 : Int) (y11 : Dat) (g : Glob) (Qf : OGP) : Prop := CP TT Tryz.f80 [1, 1, 1, 0, 0, 1, 1, 0, 0, 1, 1, 0, 0, 1, 1, 0, 0, 1, 1, 0] Qf (mkC TT 80 Tryz.f80 1 [(0, .v 107 (.ptr (some (p0, 0)))), (11, .loc 11 0 0), (85, .v 23 (x85)), (86, .v 3 (.int .i64 n86)), (87, .v 3 (.int .i64 n87)), (92, .v 74 (x92)), (93, .v 3 (.int .i64 n93)), (94, .v 3 (.int .i64 n94)), (99, .v 89 (x99)), (100, .v 3 (.int .i64 n100)), (101, .v 3 (.int .i64 n101))] [(11, .whole 76 y11)] g)
def lo80 : List CuI := [⟨2, [(0, .keep), (2, .keep), (3, .keep), (22, .keep), (23, .keep), (24, .keep)], []⟩, ⟨7, [(0, .keep), (2, .keep), (3, .keep), (5, .keep), (22, .keep), (23, .keep), (24, .keep), (42, .keep), (43, .keep), (44, .keep)], [(5, .whole 76)]⟩, ⟨12, [(0, .keep), (2, .keep), (3, .keep), (5, .keep), (22, .keep), (23, .keep), (24, .keep), (61, .keep), (62, .keep), (63, .keep)], [(5, .whole 76)]⟩, ⟨19, [(0, .keep), (85, .keep), (86, .keep), (87, .keep)], []⟩, ⟨22, [(0, .keep), (11, .keep), (85, .keep), (86, .keep), (87, .keep), (92, .keep), (93, .keep), (94, .keep)], [(11, .whole 76)]⟩, ⟨25, [(0, .keep), (11, .keep), (85, .keep), (86, .keep), (87, .keep), (92, .keep), (93, .keep), (94, .keep), (99, .keep), (100, .keep), (101, .keep)], [(11, .whole 76)]⟩]
theorem w80 {p0 : Nat} {g : Glob} {Qf : OGP} 
    (h : ∃ g', gmput (gm g) g.boxes.length (.str [105, 110, 116]) (.int .i64 1) = some g' ∧ ∃ x, Ha TT 23 x ∧ GOk TT 23 (gm g') p0 0 x ∧ L80_2 p0 g.boxes.length g'.boxes.length x (↑(elO x).length : Int) 0 (gm g') Qf) :
    EvF TT 80 [.ptr (some (p0, 0))] g Qf :=
  su (rk := rk) (fn := Tryz.f80) (loops := lo80) (joins := []) (n := 100000) (args := [(107, .ptr (some (p0, 0)))]) rfl rfl rfl rfl ⟨tyPtr rfl, trivial⟩ (by kernel_rfl) h
theorem w80_2 {p0 : Nat} {p2 : Nat} {p3 : Nat} {x22 : Dat} {n23 : Int} {n24 : Int} {g : Glob} {Qf : OGP} 
    (h : Br (decide (n24 < n23)) (InB n24 (elO x22).length ∧ ∃ n b, MLook g (some p2) (.int .i64 0) (.str (strOf (fld (gtE (elO x22) n24) 0))) (.int .i64 n) b ∧ ∃ g', gmput g p2 (.str (strOf (fld (gtE (elO x22) n24) 0))) (.int .i64 (IntKind.i64.wrap (n + 1))) = some g' ∧ ∃ n b, MLook g' (some p2) (.int .i64 0) (.str (strOf (fld (gtE (elO x22) n24) 0))) (.int .i64 n) b ∧ EvF TT 145 [.bool (n == 1), .int .i64 141, .int .i64 (intOf (fld (gtE (elO x22) n24) 3))] g' (KQ Qf fun v g' => Ret v [] ∧ L80_7 p0 p2 p3 x22 n23 n24 (fld (gtE (elO x22) n24) 1) (↑(elO (fld (gtE (elO x22) n24) 1)).length : Int) 0 (gtE (elO x22) n24) g' Qf)) (∃ x, Ha TT 23 x ∧ GOk TT 23 g p0 0 x ∧ L80_19 p0 x (↑(elO x).length : Int) 0 g Qf)) :
    L80_2 p0 p2 p3 x22 n23 n24 g Qf := sxc (rk := rk) (loops := lo80) (joins := []) (n := 100000) (by kernel_rfl) h
theorem w80_7 {p0 : Nat} {p2 : Nat} {p3 : Nat} {x22 : Dat} {n23 : Int} {n24 : Int} {x42 : Dat} {n43 : Int} {n44 : Int} {y5 : Dat} {g : Glob} {Qf : OGP} 
    (h : Br (decide (n44 < n43)) (InB n44 (elO x42).length ∧ InS 0 n44 (elO (fld y5 1)).length ∧ EvF TT 146 [slSub 1 (fld y5 1) (elO (fld y5 1)) 0 n44, .str (strOf (fld (gtE (elO x42) n44) 0))] g (KQ Qf fun v g' => ∃ b, v = .d (.bool b) ∧ EvF TT 145 [.bool !b, .int .i64 141, .int .i64 (intOf (fld y5 3))] g' (KQ Qf fun v g' => Ret v [] ∧ L80_7 p0 p2 p3 x22 n23 n24 x42 n43 (IntKind.i64.wrap (n44 + 1)) y5 g' Qf))) (L80_12 p0 p2 p3 x22 n23 n24 (fld y5 2) (↑(elO (fld y5 2)).length : Int) 0 y5 g Qf)) :
    L80_7 p0 p2 p3 x22 n23 n24 x42 n43 n44 y5 g Qf := sxc (rk := rk) (loops := lo80) (joins := []) (n := 100000) (by kernel_rfl) h
theorem w80_12 {p0 : Nat} {p2 : Nat} {p3 : Nat} {x22 : Dat} {n23 : Int} {n24 : Int} {x61 : Dat} {n62 : Int} {n63 : Int} {y5 : Dat} {g : Glob} {Qf : OGP} 
    (h : Br (decide (n63 < n62)) (InB n63 (elO x61).length ∧ ∃ n b, MLook g (some p3) (.int .i64 0) (.str (strOf (fld (gtE (elO x61) n63) 0))) (.int .i64 n) b ∧ ∃ g', gmput g p3 (.str (strOf (fld (gtE (elO x61) n63) 0))) (.int .i64 (IntKind.i64.wrap (n + 1))) = some g' ∧ ∃ n b, MLook g' (some p3) (.int .i64 0) (.str (strOf (fld (gtE (elO x61) n63) 0))) (.int .i64 n) b ∧ EvF TT 145 [.bool (n == 1), .int .i64 141, .int .i64 (intOf (fld y5 3))] g' (KQ Qf fun v g' => Ret v [] ∧ L80_12 p0 p2 p3 x22 n23 n24 x61 n62 (IntKind.i64.wrap (n63 + 1)) y5 g' Qf)) (L80_2 p0 p2 p3 x22 n23 (IntKind.i64.wrap (n24 + 1)) g Qf)) :
    L80_12 p0 p2 p3 x22 n23 n24 x61 n62 n63 y5 g Qf := sxc (rk := rk) (loops := lo80) (joins := []) (n := 100000) (by kernel_rfl) h
theorem w80_19 {p0 : Nat} {x85 : Dat} {n86 : Int} {n87 : Int} {g : Glob} {Qf : OGP} 
    (h : Br (decide (n87 < n86)) (InB n87 (elO x85).length ∧ L80_22 p0 x85 n86 n87 (fld (gtE (elO x85) n87) 2) (↑(elO (fld (gtE (elO x85) n87) 2)).length : Int) 0 (gtE (elO x85) n87) g Qf) (Qf (.val (.tuple [])) g)) :
    L80_19 p0 x85 n86 n87 g Qf := sxc (rk := rk) (loops := lo80) (joins := []) (n := 100000) (by kernel_rfl) h
theorem w80_22 {p0 : Nat} {x85 : Dat} {n86 : Int} {n87 : Int} {x92 : Dat} {n93 : Int} {n94 : Int} {y11 : Dat} {g : Glob} {Qf : OGP} 
    (h : Br (decide (n94 < n93)) (InB n94 (elO x92).length ∧ L80_25 p0 x85 n86 n87 x92 n93 n94 (fld (gtE (elO x92) n94) 1) (↑(elO (fld (gtE (elO x92) n94) 1)).length : Int) 0 y11 g Qf) (L80_19 p0 x85 n86 (IntKind.i64.wrap (n87 + 1)) g Qf)) :
    L80_22 p0 x85 n86 n87 x92 n93 n94 y11 g Qf := sxc (rk := rk) (loops := lo80) (joins := []) (n := 100000) (by kernel_rfl) h
theorem w80_25 {p0 : Nat} {x85 : Dat} {n86 : Int} {n87 : Int} {x92 : Dat} {n93 : Int} {n94 : Int} {x99 : Dat} {n100 : Int} {n101 : Int} {y11 : Dat} {g : Glob} {Qf : OGP} 
    (h : Br (decide (n101 < n100)) (InB n101 (elO x99).length ∧ EvF TT 147 [.ptr (some (p0, 0)), gtE (elO x99) n101, y11] g (KQ Qf fun v g' => ∃ b, v = .d (.bool b) ∧ EvF TT 145 [.bool b, .int .i64 141, .int .i64 (intOf (fld y11 3))] g' (KQ Qf fun v g' => Ret v [] ∧ L80_25 p0 x85 n86 n87 x92 n93 n94 x99 n100 (IntKind.i64.wrap (n101 + 1)) y11 g' Qf))) (L80_22 p0 x85 n86 n87 x92 n93 (IntKind.i64.wrap (n94 + 1)) y11 g Qf)) :
    L80_25 p0 x85 n86 n87 x92 n93 n94 x99 n100 n101 y11 g Qf := sxc (rk := rk) (loops := lo80) (joins := []) (n := 100000) (by kernel_rfl) h
def lo29 : List CuI := []
theorem w29 {x0 : Dat} {g : Glob} {Qf : OGP} (h0 : Ha TT 29 x0)
    (h : EvF TT 24 [x0] (gne g [.int .i64 0, .int .i64 0]) (KQ Qf fun v g' => ∃ b, v = .d (.bool b) ∧ Br (!b) (GPut g' g.boxes.length 0 2 ∧ ∃ x, Ha TT 49 x ∧ GOk TT 49 (gu g' g.boxes.length 0 (.agg [.int .i64 1, .int .i64 0])) g.boxes.length 0 x ∧ Qf (.val (.d x)) (gu g' g.boxes.length 0 (.agg [.int .i64 1, .int .i64 0]))) (EvF TT 31 [x0] g' fun out g' => Outc (fun x => DefQ TT [(79, [.ptr (some (g.boxes.length, 0))])] [(49, g.boxes.length, 0)] (some x) g' Qf) (fun v => ∃ x, Ha TT 23 x ∧ Rt v x ∧ EvF TT 80 [.ptr (some ((gm g').boxes.length, 0))] (gne (gm g') [x, Dat.map (some g'.boxes.length)]) fun out g'_1 => Outc (fun x => DefQ TT [(79, [.ptr (some (g.boxes.length, 0))])] [(49, g.boxes.length, 0)] (some x) g'_1 Qf) (fun v => Ret v [] ∧ EvF TT 81 [.ptr (some ((gm g').boxes.length, 0)), sub x0 1 7] g'_1 fun out g' => Outc (fun x => DefQ TT [(79, [.ptr (some (g.boxes.length, 0))])] [(49, g.boxes.length, 0)] (some x) g' Qf) (fun v => Ret v [] ∧ GPut g' g.boxes.length 0 2 ∧ DefQ TT [(79, [.ptr (some (g.boxes.length, 0))])] [(49, g.boxes.length, 0)] none (gu g' g.boxes.length 0 (.agg [.int .i64 0, .int .i64 0])) Qf) out) out) out))) :
    EvF TT 29 [x0] g Qf :=
  su (rk := rk) (fn := Tryz.f29) (loops := lo29) (joins := []) (n := 100000) (args := [(29, x0)]) rfl rfl rfl rfl ⟨h0, trivial⟩ (by kernel_rfl) h
def lo9 : List CuI := []
theorem w9 {x0 : Dat} {g : Glob} {Qf : OGP} (h0 : Ha TT 29 x0)
    (h : EvF TT 21 [x0] g (KQ Qf fun v g' => ∃ b, v = .d (.bool b) ∧ Br b (EvF TT 28 [] g' (KQ Qf fun v g' => ∃ b, v = .d (.bool b) ∧ Qf (.val (.d (.bool b))) g')) (EvF TT 23 [x0] g' (KQ Qf fun v g' => ∃ x, Ha TT 29 x ∧ v = .d x ∧ EvF TT 29 [x] g' (KQ Qf fun v g' => ∃ x_1, Ha TT 49 x_1 ∧ v = .d x_1 ∧ EvF TT 30 [x0] g' (KQ Qf fun v g' => ∃ n n_1, Ret v [.int .i64 n, .int .i64 n_1] ∧ Br (intOf (fld x_1 0) == n) (Br (intOf (fld x_1 1) == n_1) (EvF TT 18 [x, x0, .bool true] g' (KQ Qf fun v g' => ∃ b, v = .d (.bool b) ∧ Br b (EvF TT 28 [] g' (KQ Qf fun v g' => ∃ b, v = .d (.bool b) ∧ Qf (.val (.d (.bool b))) g')) (Qf (.val (.d (.bool false))) g'))) (Qf (.val (.d (.bool false))) g')) (Qf (.val (.d (.bool false))) g'))))))) :
    EvF TT 9 [x0] g Qf :=
  su (rk := rk) (fn := Tryz.f9) (loops := lo9) (joins := []) (n := 100000) (args := [(29, x0)]) rfl rfl rfl rfl ⟨h0, trivial⟩ (by kernel_rfl) h
end Go.Proofs.YtgmapdcdmomioaaGreatDoor.Pa
namespace Go.Proofs.YtgmapdcdmomioaaGreatDoor.Pa
open Go Go.Proofs.YtgmapdcdmomioaaGreatDoor.Am
def fltD (c p : Int) : Dat := .iface 106 (.agg [.int .i64 c, .int .i64 p])
theorem wat {b : Bool} {c p : Int} {g : Glob} {Qf : OGP} (hF : b = false → Qf (.panic (fltD c p)) g) (hT : b = true → Qf (.val (.tuple [])) g) : EvF TT 145 [.bool b, .int .i64 c, .int .i64 p] g Qf :=
  w145 (Bi.2 ⟨fun q => hF (by simpa using q), fun q => hT (by simpa using q)⟩)
theorem sContains_ok {x : Dat} {l : List Str} {s : Str} {g : Glob} {Qf : OGP} (hx : Ha TT 61 x) (hl : elO x = l.map .str) (hs : s.length ≤ 2 ^ 40) (hQ : Qf (.val (.d (.bool (l.contains s)))) g) : EvF TT 146 [x, .str s] g Qf := by
  have hn : l.length ≤ 2 ^ 40 := by have := (hx.els uS).1.1; rw [elsLen hl] at this; exact this
  refine w146 hx hs (w204 hx hs ?_)
  rw [elsLen hl]
  refine lU (len := l.length) (fun i => Qf (.val (.d (.bool ((l.drop i).contains s)))) g → L204_2 x s (l.length : Int) (i : Int) g _) ?_ ?_ 0 (Nat.zero_le _) hQ
  · intro hQ
    refine w204_2 ?_
    rw [Bg]
    rw [List.drop_length] at hQ
    exact ⟨_, rfl, hQ⟩
  · intro i hi ih hQ
    refine w204_2 ?_
    rw [Bl hi, strAt hl hi, elsLen hl]
    rw [List.drop_eq_getElem_cons hi, List.contains_cons] at hQ
    refine ⟨inB hi, Bi.2 ⟨fun q => ⟨_, rfl, bcast hQ ?_⟩, fun q => ?_⟩⟩
    · rw [q, Bool.true_or, decide_eq_true (by omega)]
    · rw [q, Bool.false_or] at hQ
      rw [wra (by omega)]
      exact ih hQ
theorem gnew4 (g : Glob) (ds : List Dat) {j : Nat} {bx : GBox} (h : g.boxes[j]? = some bx) : (gne g ds).boxes[j]? = some bx := by
  rw [gnew_old _ (List.getElem?_eq_some_iff.1 h).1]; exact h
theorem Kp.at {bx : List Nat} {b : Nat} {g g' : Glob} (h : Kp bx b g g') {j : Nat} {x : GBox} (hj : g.boxes[j]? = some x) (hx : j ∉ bx) : g'.boxes[j]? = some x := by
  rw [h.box j (List.getElem?_eq_some_iff.1 hj).1 hx]; exact hj
structure DL (D : Dat) (l : List Dc) : Prop where
  ty : Ha TT 23 D
  abs : (elO D).map abD = l
theorem DL.len {D : Dat} {l : List Dc} (h : DL D l) : (elO D).length = l.length := by rw [← h.abs, List.length_map]
theorem DL.get {D : Dat} {l : List Dc} (h : DL D l) {i : Nat} (hi : i < l.length) : ∃ s a b p, gtE (elO D) (i : Int) = .agg [.str s, a, b, .int .i64 p] ∧ s.length ≤ 2 ^ 40 ∧ Ha TT 61 a ∧ Ha TT 74 b ∧ l[i] = ⟨s, (elO a).map strOf, (elO b).map aC, p⟩ := by
  have hi' : i < (elO D).length := by rw [h.len]; exact hi
  obtain ⟨s, a, b, p, e, hs, ha, hb⟩ := det ((h.ty.els uD).2 _ (List.getElem_mem hi'))
  refine ⟨s, a, b, p, by rw [geE hi', e], hs, ha, hb, ?_⟩
  have h2 : l[i] = abD (elO D)[i] := by
    have := h.abs
    subst this
    rw [List.getElem_map]
  rw [h2, e]
  rfl
theorem undType : ∃ d, TT.und 94 = some d ∧ ig d = true := isAgg_und (by kernel_rfl)
theorem undDecl : ∃ d, TT.und 76 = some d ∧ ig d = true := isAgg_und (by kernel_rfl)
theorem sizeInt' : TT.size 3 = some 1 := by kernel_rfl
theorem sizeStr' : TT.size 9 = some 1 := by kernel_rfl
theorem sizeDecls : TT.size 23 = some 1 := by kernel_rfl
theorem sizeTypes : TT.size 89 = some 1 := by kernel_rfl
theorem strEls {a : Dat} (h : Ha TT 61 a) : elO a = ((elO a).map strOf).map .str := by
  obtain ⟨l, e, _⟩ := strs_inv h
  have : (l.map Dat.str).map strOf = l := by rw [List.map_map]; exact List.map_id'' (fun _ => rfl) l
  rw [e, this]
theorem containsTypes_g {f : FuncId} {c : List Dat} {p : Dat → Bool} {x : Dat} {g : Glob} {Qf : OGP} {P : Glob → Prop} (hx : Ha TT 89 x)
    (hf : ∀ y ∈ elO x, ∀ g, P g → ∀ Q : Out → Glob → Prop, (∀ g', P g' → Q (.val (.d (.bool (p y)))) g') → EvF TT f (y :: c) g Q) (hP : P g) (hQ : ∀ g', P g' → Qf (.val (.d (.bool ((elO x).any p)))) g') : EvF TT 137 [x, .clo f c] g Qf := by
  have exl := len_le uT hx
  refine w137 hx (w201 hx ?_)
  refine lU (len := (elO x).length) (fun i => ∀ g, P g → (∀ g', P g' → Qf (.val (.d (.bool (((elO x).drop i).any p)))) g') → L201_2 x f c ((elO x).length : Int) (i : Int) g _) ?_ ?_ 0 (Nat.zero_le _) g hP hQ
  · intro g hP hQ
    refine w201_2 ?_
    rw [Bg]
    rw [List.drop_length] at hQ
    exact ⟨_, rfl, hQ g hP⟩
  · intro i hi ih g hP hQ
    refine w201_2 ?_
    rw [Bl hi, geE hi]
    rw [List.drop_eq_getElem_cons hi, List.any_cons] at hQ
    refine ⟨inB hi, hf _ (List.getElem_mem hi) g hP _ fun g' hP' => ⟨_, rfl, Bi.2 ⟨fun q => ?_, fun q => ?_⟩⟩⟩
    · rw [q] at hQ
      refine ⟨_, rfl, bcast (hQ g' hP') ?_⟩
      rw [Bool.true_or, decide_eq_true (by omega)]
    · rw [q] at hQ
      rw [wra (by omega)]
      exact ih g' hP' hQ
theorem indexDecl_ok {f : FuncId} {c : List Dat} {D : Dat} {l : List Dc} {s : Str} {g : Glob} {Qf : OGP} (hD : DL D l) (hf : ∀ y ∈ elO D, ∀ Q : Out → Glob → Prop, Q (.val (.d (.bool ((abD y).s == s)))) g → EvF TT f (y :: c) g Q)
    (hQ : Qf (.val (.d (.int .i64 (declIx s l 0)))) g) : EvF TT 135 [D, .clo f c] g Qf := by
  have exl := len_le uD hD.ty
  refine w135 hD.ty ?_
  have e : l = ((elO D).drop 0).map abD := by rw [List.drop_zero, hD.abs]
  rw [e] at hQ
  refine lU (len := (elO D).length) (fun i => Qf (.val (.d (.int .i64 (declIx s (((elO D).drop i).map abD) (i : Int))))) g → L135_2 D f c ((elO D).length : Int) (i : Int) g Qf) ?_ ?_ 0 (Nat.zero_le _) hQ
  · intro hQ
    refine w135_2 ?_
    rw [Bg]
    rw [List.drop_length] at hQ
    exact hQ
  · intro i hi ih hQ
    refine w135_2 ?_
    rw [Bl hi, geE hi]
    rw [List.drop_eq_getElem_cons hi, List.map_cons] at hQ
    unfold declIx at hQ
    refine ⟨inB hi, hf _ (List.getElem_mem hi) _ ⟨_, rfl, Bi.2 ⟨fun q => ?_, fun q => ?_⟩⟩⟩
    · rw [q] at hQ
      exact hQ
    · rw [q] at hQ
      rw [wra (by omega)]
      refine ih ?_
      simp only [cond_false] at hQ
      exact hQ
theorem typed_ok : ∀ (n : Nat) {x d D : Dat} {l : List Dc} {p mb : Nat} {ps : List Str} {g : Glob} {Qf : OGP}, SizeOf.sizeOf x < n → Ha TT 94 x → Ha TT 76 d → elO (fld d 1) = ps.map .str → DL D l → SB g p mb D →
    (∀ g', Kp [] g.toks.length g g' → Qf (.val (.d (.bool (typedT l ps (aT x))))) g') → EvF TT 147 [.ptr (some (p, 0)), x, d] g Qf
  | 0, x, d, D, l, p, mb, ps, g, Qf, hsz, _, _, _, _, _, _ => by omega
  | n + 1, x, d, D, l, p, mb, ps, g, Qf, hsz, hx, hd, hps, hD, hb, hQ => by
    obtain ⟨k1, s1, v1, a1, rfl, hs1, t1⟩ := type_ty hx
    obtain ⟨s2, a2, b2, p2, rfl, hs2, ha2, hb2⟩ := det hd
    have ex := t1.els uT
    have exl := ex.1.1
    have hc := sO (cs := [.int .i64 k1, .str s1, .int .i64 v1, a1]) (c := a1) (by simp)
    have hps : elO a2 = ps.map .str := hps
    have e1 : typedT l ps (aT (.agg [.int .i64 k1, .str s1, .int .i64 v1, a1])) = (bif k1 == 2 then ps.contains s1 else bif k1 == 4 then (match dcPs s1 l with | none => false | some m => m == (elO a1).length && tye l ps ((elO a1).map aT)) else tye l ps ((elO a1).map aT)) := by
      simp only [aT, typedT, ay, List.length_map]
      all_goals rfl
    rw [e1] at hQ
    refine w147 hx hd ?_
    generalize hg1 : gne g [Dat.ptr (some (p, 0))] = g1
    show L147_1 g.boxes.length g1.boxes.length (gne g1 [Dat.int IntKind.i64 k1, Dat.str s1, Dat.int IntKind.i64 v1, a1]).boxes.length (gne (gne g1 [Dat.int IntKind.i64 k1, Dat.str s1, Dat.int IntKind.i64 v1, a1]) [Dat.str s2, a2, b2, Dat.int IntKind.i64 p2]) Qf
    generalize hg2 : gne g1 [Dat.int IntKind.i64 k1, Dat.str s1, Dat.int IntKind.i64 v1, a1] = g2
    generalize hg3 : gne g2 [Dat.str s2, a2, b2, Dat.int IntKind.i64 p2] = g3
    have b3 : g3.boxes[g.boxes.length]? = some (.cells [.d (.ptr (some (p, 0)))]) := by
      rw [← hg3]; refine gnew4 _ _ ?_; rw [← hg2]; refine gnew4 _ _ ?_; rw [← hg1]; exact gnw _ _
    have b4 : g3.boxes[g1.boxes.length]? = some (.cells [.d (.int .i64 k1), .d (.str s1), .d (.int .i64 v1), .d a1]) := by
      rw [← hg3]; refine gnew4 _ _ ?_; rw [← hg2]; exact gnw _ _
    have b5 : g3.boxes[g2.boxes.length]? = some (.cells ([Dat.str s2, a2, b2, .int .i64 p2].map .d)) := by
      rw [← hg3]; exact gnw _ _
    have b0 : SB g3 p mb D := by
      unfold SB
      rw [← hg3]; refine gnew4 _ _ ?_; rw [← hg2]; refine gnew4 _ _ ?_; rw [← hg1]; exact gnew4 _ _ hb
    have kp : Kp [] g.toks.length g g3 := by
      rw [← hg3, ← hg2, ← hg1]
      exact ((kp_gnew _ _ _).trans (kp_gnew _ _ _)).trans (kp_gnew _ _ _)
    have ht3 : g3.toks = g.toks := by rw [← hg3, ← hg2, ← hg1]; rfl
    obtain ⟨td, htu, hta⟩ := undType
    obtain ⟨dd, hdu, hda⟩ := undDecl
    -- the arguments
    have L8 : (∀ g', Kp [] g.toks.length g g' → Qf (.val (.d (.bool (tye l ps ((elO a1).map aT))))) g') → L147_8 g.boxes.length g1.boxes.length g2.boxes.length g3 Qf := by
      intro hQ
      refine w147_8 ⟨a1, t1, gokD uT sizeTypes rfl b4 rfl, ?_⟩
      refine containsTypes_g (p := fun y => !(typedT l ps (aT y))) (P := fun g' => Kp [] g3.toks.length g3 g') t1 (fun y hy g4 h4 Q hQ4 => ?_) (Kp.refl _ _ _) fun g' hk => ⟨_, rfl, ?_⟩
      · have b0' : SB g4 p mb D := h4.at b0 (by simp)
        refine w206 (ex.2 y hy) ⟨p, 0, gokD undSp sizeSp rfl (h4.at b3 (by simp)) rfl, _, hd, gok_agg hdu szDecl hda (h4.at b5 (by simp)) rfl, ?_⟩
        have hlt : SizeOf.sizeOf y < n := by
          obtain ⟨i, hi, rfl⟩ := List.mem_iff_getElem.1 hy
          have := siz hi
          omega
        refine typed_ok n hlt (ex.2 y hy) hd hps hD b0' fun g5 h5 => ⟨_, rfl, hQ4 g5 (h4.trans (h5.le (fun j hj => hj) h4.tlen))⟩
      · have : (!((elO a1).any fun y => !(typedT l ps (aT y)))) = tye l ps ((elO a1).map aT) := by
          clear hQ hps e1 b4 hc exl ex t1 hg2 hsz hx
          induction elO a1 with
          | nil => rfl
          | cons y ys ih => simp only [List.any_cons, List.map_cons, tye, Bool.not_or, Bool.not_not, ih]
        rw [this]
        exact hQ g' (kp.trans (hk.le (fun j hj => hj) (by rw [ht3]; exact Nat.le_refl _)))
    refine w147_1 ⟨k1, gokD undInt sizeInt' rfl b4 rfl, Bi.2 ⟨fun q => ?_, fun q => Bi.2 ⟨fun q2 => ?_, fun q2 => L8 ?_⟩⟩⟩
    · rw [q] at hQ
      refine ⟨a2, ha2, gokD uS siS rfl b5 rfl, s1, hs1, gokD undStr sizeStr' rfl b4 rfl, sContains_ok ha2 hps hs1 ⟨_, rfl, hQ g3 kp⟩⟩
    · rw [q, q2] at hQ
      refine ⟨p, 0, gokD undSp sizeSp rfl b3 rfl, D, hD.ty, gokD uD sizeDecls rfl b0 rfl, ?_⟩
      refine indexDecl_ok (s := s1) hD (fun y hy Q hq => ?_) ⟨_, rfl, ?_⟩
      · have hty := (hD.ty.els uD).2 y hy
        obtain ⟨s3, a3, b3', p3, rfl, _⟩ := det hty
        exact w205 hty ⟨s1, hs1, gokD undStr sizeStr' rfl b4 rfl, hq⟩
      · rcases declIx_spec s1 l 0 with ⟨i, d', e', hi, hp⟩ | ⟨e', hp⟩
        · rw [hp] at hQ
          have e' : declIx s1 l 0 = ((0 + i : Nat) : Int) := e'
          rw [Nat.zero_add] at e'
          rw [e']
          have hlt : i < l.length := (List.getElem?_eq_some_iff.1 hi).1
          obtain ⟨s4, a4, b4', p4, eg, _, ha4, _, el⟩ := hD.get hlt
          refine brF (by simp) ⟨p, 0, gokD undSp sizeSp rfl b3 rfl, D, hD.ty, gokD uD sizeDecls rfl b0 rfl, by rw [hD.len]; exact inB hlt, a1, t1, gokD uT sizeTypes rfl b4 rfl, ?_⟩
          rw [eg]
          have hl4 : d'.ps.length = (elO a4).length := by
            rw [List.getElem?_eq_getElem hlt] at hi
            cases hi
            rw [el]
            simp
          simp only [cond_true, cond_false, hl4] at hQ
          refine Bi.2 ⟨fun q5 => ?_, fun q5 => L8 ?_⟩
          · have : ((elO a4).length == (elO a1).length) = false := by
              rw [beq_eq_false_iff_ne]
              intro e
              rw [show elO (fld (Dat.agg [Dat.str s4, a4, b4', Dat.int IntKind.i64 p4]) 1) = elO a4 from rfl, e] at q5
              simp at q5
            rw [this] at hQ
            exact hQ g3 kp
          · have : ((elO a4).length == (elO a1).length) = true := by
              have q5 : (((elO a4).length : Int) != ((elO a1).length : Int)) = false := q5
              have : ((elO a4).length : Int) = (elO a1).length := by simpa using q5
              rw [beq_iff_eq]
              omega
            rw [this] at hQ
            exact hQ
        · rw [hp] at hQ
          have e' : declIx s1 l 0 = -1 := e'
          rw [e']
          exact brT (by decide) (hQ g3 kp)
    · rw [q, q2] at hQ
      exact hQ
end Go.Proofs.YtgmapdcdmomioaaGreatDoor.Pa
