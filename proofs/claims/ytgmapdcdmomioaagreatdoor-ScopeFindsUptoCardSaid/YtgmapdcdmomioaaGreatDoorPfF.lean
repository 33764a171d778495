/- Tokens of the program's lexer: one token, its text. -/
import Derived.Test.YtgmapdcdmomioaaGreatDoorPfE
set_option linter.all false
set_option linter.all false
set_option autoImplicit false
set_option maxRecDepth 100000
namespace Go.Proofs.YtgmapdcdmomioaaGreatDoor.Pa
open Go Go.Proofs.YtgmapdcdmomioaaGreatDoor.Am
/-! ### Runes -/
theorem get!_nat {s : Str} {i : Nat} (h : i < s.length) : ((⟨s.toArray⟩ : ByteArray).get! i) = s[i] := by
  show (s.toArray)[i]! = s[i]
  rw [getElem!_pos s.toArray i (by simpa using h)]
  simp
theorem rune_low {s : Str} {i : Nat} (h : i < s.length) (hc : s[i].toNat < 128) : runeAt s i = (s[i].toNat : Int) ∧ runeLen s i = 1 := by
  have e : Utf8.decode ⟨s.toArray⟩ i = (s[i].toNat, 1) := by
    unfold Utf8.decode
    simp only [Nat.add_zero, get!_nat h]
    rw [if_pos (show s[i].toNat < 0x80 from hc)]
  simp [runeAt, runeLen, e]
theorem rune_high {s : Str} {i : Nat} (h : i < s.length) (hc : ¬ s[i].toNat < 128) : (128 : Int) ≤ runeAt s i := by
  have e : 128 ≤ (Utf8.decode ⟨s.toArray⟩ i).1 := by
    unfold Utf8.decode
    simp only [Nat.add_zero, get!_nat h]
    rw [if_neg (show ¬ s[i].toNat < 0x80 from hc)]
    have hr : 128 ≤ Utf8.runeError := by decide
    split
    · split
      · rename_i hh; exact hh
      · exact hr
    · split
      · split
        · rename_i hh; simp only [Bool.and_eq_true, decide_eq_true_eq] at hh; exact Nat.le_trans (by decide) hh.1
        · exact hr
      · split
        · split
          · rename_i hh; simp only [Bool.and_eq_true, decide_eq_true_eq] at hh; exact Nat.le_trans (by decide) hh.1
          · exact hr
        · exact hr
  show (128 : Int) ≤ ((Utf8.decode ⟨s.toArray⟩ i).1 : Int)
  exact_mod_cast e
def runN (p : Int → Bool) (s : Str) : Nat := (s.takeWhile fun c => p c.toNat).length
theorem runN_le (p : Int → Bool) (s : Str) : runN p s ≤ s.length := by
  unfold runN
  exact (List.takeWhile_sublist _).length_le
theorem runN_drop (p : Int → Bool) {s : Str} {i : Nat} (h : i < s.length) : runN p (s.drop i) = bif p s[i].toNat then 1 + runN p (s.drop (i + 1)) else 0 := by
  unfold runN
  rw [List.drop_eq_getElem_cons h, List.takeWhile_cons]
  cases p s[i].toNat
  · rfl
  · simp only [if_true, List.length_cons, cond_true]
    omega
section
variable {n : Int} {s : Str} {g : Glob} {Qf : Out → Glob → Prop}
theorem lexrun_ok (p : Int → Bool) (f : FuncId) (hf : ∀ (n : Int) (Qf : Out → Glob → Prop), Qf (.val (.d (.bool (p n)))) g → EvF TT f [.int .i32 n] g Qf) (hp : ∀ n : Int, 128 ≤ n → p n = false)
    (hs : s.length ≤ 2 ^ 40) (hQ : Qf (.val (.d (.int .i64 (runN p s : Nat)))) g) : EvF TT 163 [.str s, .clo f []] g Qf := by
  refine w163 hs ?_
  refine loopUp (len := s.length) (fun i => Qf (.val (.d (.int .i64 ((i + runN p (s.drop i) : Nat))))) g → L163_2 s f [] s i g Qf) ?_ ?_ 0 (Nat.zero_le _) (by simpa using hQ)
  · intro hQ
    refine w163_2 ?_
    rw [show decide (s.length < s.length) = false by simp, Br_false]
    rw [List.drop_length] at hQ
    simpa [runN] using hQ
  · intro i hi ih hQ
    refine w163_2 ?_
    rw [show decide (i < s.length) = true by simpa using hi, Br_true]
    rw [runN_drop p hi] at hQ
    by_cases hc : s[i].toNat < 128
    · obtain ⟨e1, e2⟩ := rune_low hi hc
      rw [e1, e2]
      refine hf _ _ ⟨_, rfl, Br_iff.2 ⟨fun q => ?_, fun q => ?_⟩⟩
      · have q : p s[i].toNat = false := by simpa using q
        rw [q] at hQ
        exact hQ
      · have q : p s[i].toNat = true := by simpa using q
        rw [q] at hQ
        refine ih ?_
        rw [show i + 1 + runN p (s.drop (i + 1)) = i + (1 + runN p (s.drop (i + 1))) by omega]
        exact hQ
    · have q := hp _ (rune_high hi hc)
      have q' : p s[i].toNat = false := hp _ (by omega)
      refine hf _ _ ⟨_, rfl, ?_⟩
      rw [q]
      rw [q'] at hQ
      exact hQ
theorem ptB_high (n : Int) (h : 128 ≤ n) : ptB n = false := by
  simp only [ptB, smB, cpB, dgB]
  rw [decide_eq_false (show ¬ n ≤ 122 by omega), decide_eq_false (show ¬ n ≤ 90 by omega), decide_eq_false (show ¬ n ≤ 57 by omega), show (n == 95) = false from by simpa using (by omega : ¬ n = 95)]
  simp
theorem dgB_high (n : Int) (h : 128 ≤ n) : dgB n = false := by
  simp only [dgB]
  rw [decide_eq_false (show ¬ n ≤ 57 by omega)]
  simp
theorem lexrunIn_ok (hs : s.length ≤ 2 ^ 40) (hQ : Qf (.val (.d (.int .i64 (runN ptB s : Nat)))) g) : EvF TT 163 [.str s, .clo 164 []] g Qf :=
  lexrun_ok ptB _ (fun n Qf h => lexinside_ok h) ptB_high hs hQ
theorem lexrunDg_ok (hs : s.length ≤ 2 ^ 40) (hQ : Qf (.val (.d (.int .i64 (runN dgB s : Nat)))) g) : EvF TT 163 [.str s, .clo 168 []] g Qf :=
  lexrun_ok dgB _ (fun n Qf h => lexdigit_ok h) dgB_high hs hQ
/-! ### Tokens -/
/-- A token's kind, text, number. -/
abbrev Tk := Int × Str × Int
def tkD (t : Tk) (at' : Int) : Dat := .agg [.int .i64 t.1, .str t.2.1, .int .i64 t.2.2, .int .i64 at']
def tkE (t : Tk) (e : Int) : Out := .val (.tuple [.d (tkD t 0), .d (.int .i64 e)])
def tkNE (t : Tk) (n e : Int) : Out := .val (.tuple [.d (tkD t 0), .d (.int .i64 n), .d (.int .i64 e)])
theorem ty_tok {t : Tk} {p : Int} (h : t.2.1.length ≤ 2 ^ 40) : HasTy TT 43 (tkD t p) :=
  struct_of (tys := [3, 9, 3, 3]) (by kernel_rfl) (by kernel_rfl) (by kernel_rfl) ⟨ty_int, ty_str h, ty_int, ty_int, trivial⟩
def wordF (k : Int) (s : Str) : Tk × Int := if 32 < s.length then ((0, [], 0), 2) else ((if k == 1 && keyB s then 5 else k, s, 0), 0)
theorem lexword_ok {k : Int} (hs : s.length ≤ 2 ^ 40) (hQ : Qf (tkE (wordF k s).1 (wordF k s).2) g) : EvF TT 166 [.int .i64 k, .str s] g Qf := by
  refine w166 hs ?_
  unfold wordF at hQ
  refine Br_iff.2 ⟨fun q => ?_, fun q => ?_⟩
  · rw [if_pos (by have := of_decide_eq_true q; omega)] at hQ
    exact hQ
  · rw [if_neg (by have := of_decide_eq_false q; omega)] at hQ
    refine Br_iff.2 ⟨fun q => lexkey_ok hs ⟨_, rfl, Br_iff.2 ⟨fun q' => ?_, fun q' => ?_⟩⟩, fun q => ?_⟩
    · rw [q, q'] at hQ; exact hQ
    · rw [q, q'] at hQ; exact hQ
    · rw [q] at hQ; exact hQ
def numF (s : Str) : Tk × Int :=
  match numTok s with
  | some n => ((4, [], n), 0)
  | none => ((0, [], 0), 110)
theorem numF_out (s : Str) : numOut (numTok s) = tkE (numF s).1 (numF s).2 := by
  unfold numF
  cases numTok s <;> rfl
theorem lexnumber_ok (hs : s.length ≤ 2 ^ 40) (hQ : Qf (tkE (numF s).1 (numF s).2) g) : EvF TT 169 [.str s] g Qf :=
  number_ok s (by omega) g Qf (by rw [numF_out]; exact hQ)
/-- The first sign that a text begins with. -/
def signF (s : Str) : List Str → Option Str
  | [] => none
  | x :: l => if x.isPrefixOf s then some x else signF s l
def tokF : Str → Tk × Nat × Int
  | [] => ((0, [], 0), 0, 110)
  | c :: r =>
    let n := 1 + runN ptB r
    let m := 1 + runN dgB r
    let s := c :: r
    if smB c.toNat then ((wordF 1 (s.take n)).1, n, (wordF 1 (s.take n)).2)
    else if cpB c.toNat then ((wordF 2 (s.take n)).1, n, (wordF 2 (s.take n)).2)
    else if c.toNat == 39 && (decide (1 < n) && (match r with | d :: _ => smB d.toNat | [] => false)) then ((wordF 3 (r.take (runN ptB r))).1, n, (wordF 3 (r.take (runN ptB r))).2)
    else if c.toNat == 126 || dgB c.toNat then ((numF (s.take m)).1, m, (numF (s.take m)).2)
    else match signF s signL with
      | some x => ((6, x, 0), x.length, 0)
      | none => ((0, [], 0), 0, 110)
theorem hasPrefix_ok {p : Str} (hs : s.length ≤ 2 ^ 40) (hp : p.length ≤ 2 ^ 40) (hQ : Qf (.val (.d (.bool (p.isPrefixOf s)))) g) : EvF TT 171 [.str s, .str p] g Qf := by
  refine w171 hs hp (w211 hs hp ?_)
  refine Br_iff.2 ⟨fun q => ?_, fun q => ?_⟩
  · have q : p.length ≤ s.length := by have := of_decide_eq_true q; omega
    refine ⟨⟨by omega, by omega, by omega⟩, _, rfl, qcast hQ ?_⟩
    have e : subStr s 0 (p.length : Int) = s.take p.length := by simp [subStr]
    rw [e, Bool.eq_iff_iff]
    rw [List.isPrefixOf_iff_prefix, List.prefix_iff_eq_take, beq_iff_eq]
    exact eq_comm
  · have q : ¬ p.length ≤ s.length := by have := of_decide_eq_false q; omega
    refine ⟨_, rfl, qcast hQ ?_⟩
    rw [← Bool.not_eq_true, List.isPrefixOf_iff_prefix]
    exact fun h => q h.length_le
theorem nth_app {pre : List Dat} {x : Dat} {l : List Dat} : nth (pre ++ x :: l) pre.length = x := by
  induction pre with
  | nil => rfl
  | cons y pre ih => exact ih
theorem signLoop {y : Dat} (hs : s.length ≤ 2 ^ 40) : ∀ (l pre : List Str), signL = pre ++ l → Qf (match signF s l with | some x => tkNE (6, x, 0) x.length 0 | none => tkNE (0, [], 0) 0 110) g → L97_17 s (.sl 1 (signL.map .str)) 14 (pre.length : Int) y g Qf
  | [], pre, hl, hQ => by
    have : pre.length = 14 := by rw [List.append_nil] at hl; rw [← hl]; rfl
    refine w97_17 ?_
    rw [this]
    exact hQ
  | x :: l, pre, hl, hQ => by
    have hlen : pre.length + (l.length + 1) = 14 := by
      have := congrArg List.length hl
      rw [List.length_append, List.length_cons] at this
      exact this.symm
    refine w97_17 ?_
    have hx : x.length ≤ 2 ^ 40 := by
      have : ∀ x ∈ signL, x.length ≤ 2 ^ 40 := by decide
      exact this _ (by rw [hl]; simp)
    have hg : getE (elsOf (.sl 1 (signL.map .str))) (pre.length : Int) = .str x := by
      simp only [elsOf, getE, Int.toNat_natCast, hl, List.map_append, List.map_cons]
      have := nth_app (pre := pre.map Dat.str) (x := .str x) (l := l.map .str)
      rw [List.length_map] at this
      exact this
    rw [show (14 : Int) = ((14 : Nat) : Int) from rfl, Br_lt (show pre.length < 14 by omega), hg]
    refine ⟨inB (show pre.length < 14 by omega), hasPrefix_ok hs hx ⟨_, rfl, ?_⟩⟩
    have hQ : Qf (match (if x.isPrefixOf s then some x else signF s l) with | some x => tkNE (6, x, 0) x.length 0 | none => tkNE (0, [], 0) 0 110) g := hQ
    show Br (x.isPrefixOf s) _ _
    cases hq : x.isPrefixOf s with
    | true =>
      rw [hq] at hQ
      exact hQ
    | false =>
      rw [hq] at hQ
      rw [Br_false, wrap_nat (by omega)]
      have := signLoop (y := y) hs l (pre ++ [x]) (by rw [hl, List.append_assoc]; rfl) hQ
      rw [List.length_append] at this
      exact this
theorem take_len {s : Str} {n : Nat} (hs : s.length ≤ 2 ^ 40) : (s.take n).length ≤ 2 ^ 40 := by rw [List.length_take]; omega
theorem wrap1 {m : Nat} (h : m ≤ 2 ^ 41) : IntKind.i64.wrap (1 + (m : Int)) = ((1 + m : Nat) : Int) := by
  rw [wrap_id (by omega) (by omega)]; omega
theorem sub_take {s : Str} {n : Nat} : subStr s 0 ((n : Nat) : Int) = s.take n := by simp [subStr]
theorem wrap32 (b : UInt8) : IntKind.i32.wrap (b.toNat : Int) = (b.toNat : Int) := by
  have := b.toNat_lt
  show (if (true && decide ((b.toNat : Int) % 2 ^ 32 ≥ (2 ^ (32 - 1) : Int))) = true then (b.toNat : Int) % 2 ^ 32 - 2 ^ 32 else (b.toNat : Int) % 2 ^ 32) = _
  have e : (b.toNat : Int) % 2 ^ 32 = (b.toNat : Int) := by omega
  have e2 : ¬ (b.toNat : Int) ≥ 2 ^ (32 - 1) := by omega
  simp only [e, e2, decide_false, Bool.and_false, Bool.false_eq_true, if_false]
theorem wordF_len (k : Int) (hs : s.length ≤ 2 ^ 40) : (wordF k s).1.2.1.length ≤ 2 ^ 40 := by
  unfold wordF
  split <;> simp <;> omega
theorem lextoken_ok (h1 : s ≠ []) (hs : s.length ≤ 2 ^ 40) (hQ : Qf (tkNE (tokF s).1 (tokF s).2.1 (tokF s).2.2) g) : EvF TT 97 [.str s] g Qf := by
  refine w97 hs ?_
  cases s with
  | nil => exact absurd rfl h1
  | cons c r =>
    have hr : r.length ≤ 2 ^ 40 := by rw [List.length_cons] at hs; omega
    have hsub : subStr (c :: r) 1 ((c :: r).length : Int) = r := by simp [subStr]
    have hin : InS 1 ((c :: r).length : Int) (c :: r).length := ⟨by omega, by rw [List.length_cons]; omega, by omega⟩
    have hb0 : IntKind.i32.wrap (byteAt (c :: r) 0) = (c.toNat : Int) := wrap32 c
    have hn := runN_le ptB r
    have hm := runN_le dgB r
    simp only [tokF] at hQ
    rw [hb0, hsub]
    have hin0 : ∀ m : Nat, m ≤ r.length → InS 0 ((1 + m : Nat) : Int) (c :: r).length := fun m h => ⟨by omega, by omega, by rw [List.length_cons]; omega⟩
    have sub1 : ∀ m : Nat, subStr (c :: r) 1 ((1 + m : Nat) : Int) = r.take m := fun m => by
      simp only [subStr, Int.toNat_natCast, Nat.add_comm 1 m, List.take_succ_cons]
      rfl
    refine ⟨inB (i := 0) (by simp), hin, lexrunIn_ok hr ⟨_, rfl, ?_⟩⟩
    rw [wrap1 (by omega)]
    refine lexsmall_ok ⟨_, rfl, Br_iff.2 ⟨fun q1 => ⟨hin0 _ hn, ?_⟩, fun q1 => lexgreat_ok ⟨_, rfl, Br_iff.2 ⟨fun q2 => ⟨hin0 _ hn, ?_⟩, fun q2 => Br_iff.2 ⟨fun q3 => Br_iff.2 ⟨fun q4 => ⟨?_, lexsmall_ok ⟨_, rfl, Br_iff.2 ⟨fun q5 => ⟨?_, ?_⟩, fun q5 => ?_⟩⟩⟩, fun q4 => ?_⟩, fun q3 => ?_⟩⟩⟩⟩⟩
    · rw [sub_take]
      refine lexword_ok (take_len hs) ⟨_, ty_tok (wordF_len _ (take_len hs)), _, ⟨rfl, rfl, trivial⟩, ?_⟩
      rw [if_pos q1] at hQ
      exact hQ
    · rw [sub_take]
      refine lexword_ok (take_len hs) ⟨_, ty_tok (wordF_len _ (take_len hs)), _, ⟨rfl, rfl, trivial⟩, ?_⟩
      rw [if_neg (by simp [q1]), if_pos q2] at hQ
      exact hQ
    · have := of_decide_eq_true q4
      exact ⟨by omega, by rw [List.length_cons]; omega⟩
    · have := of_decide_eq_true q4
      exact ⟨by omega, by omega, by rw [List.length_cons]; omega⟩
    · rw [sub1]
      refine lexword_ok (take_len hr) ⟨_, ty_tok (wordF_len _ (take_len hr)), _, ⟨rfl, rfl, trivial⟩, ?_⟩
      have h4 := of_decide_eq_true q4
      rw [if_neg (by simp [q1]), if_neg (by simp [q2]), if_pos (by
        have q3 : c.toNat = 39 := by have := beq_iff_eq.1 q3; omega
        cases r with
        | nil => simp [runN] at h4
        | cons d r' =>
          have q5 : smB d.toNat = true := by rw [← wrap32]; exact q5
          simp [q3, q5]
          omega)] at hQ
      exact hQ
    all_goals
      have hQ : Qf (if (c.toNat == 126 || dgB c.toNat) = true then tkNE (numF ((c :: r).take (1 + runN dgB r))).1 ((1 + runN dgB r : Nat) : Int) (numF ((c :: r).take (1 + runN dgB r))).2 else match signF (c :: r) signL with | some x => tkNE (6, x, 0) x.length 0 | none => tkNE (0, [], 0) 0 110) g := by
        rw [if_neg (by simp [q1]), if_neg (by simp [q2]), if_neg ?_] at hQ
        · split at hQ
          · rename_i h
            rw [if_pos h]
            exact hQ
          · rename_i h
            rw [if_neg h]
            split at hQ
            · exact hQ
            · exact hQ
        · intro h
          simp only [Bool.and_eq_true, decide_eq_true_eq, beq_iff_eq] at h
          obtain ⟨h1, h2, h3⟩ := h
          first
            | (have := beq_eq_false_iff_ne.1 q3; omega)
            | (have := of_decide_eq_false q4; omega)
            | (cases r with
              | nil => cases h3
              | cons d r' =>
                have q5 : smB d.toNat = false := by rw [← wrap32]; exact q5
                exact absurd (show smB d.toNat = true from h3) (by rw [q5]; exact Bool.false_ne_true))
      have num : Qf (tkNE (numF ((c :: r).take (1 + runN dgB r))).1 ((1 + runN dgB r : Nat) : Int) (numF ((c :: r).take (1 + runN dgB r))).2) g → ∀ v, v = Val.d (.int .i64 ((runN dgB r : Nat) : Int)) → ∃ n, v = Val.d (.int .i64 n) ∧ InS 0 (IntKind.i64.wrap (1 + n)) (c :: r).length ∧ EvF TT 169 [.str (subStr (c :: r) 0 (IntKind.i64.wrap (1 + n)))] g fun out g' => Outc (fun x => Qf (Out.panic x) g') (fun v => ∃ x, HasTy TT 43 x ∧ ∃ n_1, RetT v [x, .int .i64 n_1] ∧ Qf (Out.val (Val.tuple [Val.d (.agg [.int .i64 (intOf (fld x 0)), .str (strOf (fld x 1)), .int .i64 (intOf (fld x 2)), .int .i64 (intOf (fld x 3))]), Val.d (.int .i64 (IntKind.i64.wrap (1 + n))), Val.d (.int .i64 n_1)])) g') out := by
        intro hQ v hv
        refine ⟨_, hv, ?_⟩
        rw [wrap1 (by omega), sub_take]
        refine ⟨hin0 _ hm, lexnumber_ok (take_len hs) ⟨_, ty_tok (by unfold numF; split <;> simp), _, ⟨rfl, rfl, trivial⟩, hQ⟩⟩
      refine Br_iff.2 ⟨fun q => ⟨hin, lexrunDg_ok hr (num ?_ _ rfl)⟩, fun q => lexdigit_ok ⟨_, rfl, Br_iff.2 ⟨fun q' => ⟨hin, lexrunDg_ok hr (num ?_ _ rfl)⟩, fun q' => ?_⟩⟩⟩
      · rw [if_pos (by have := beq_iff_eq.1 q; simp; left; omega)] at hQ
        exact hQ
      · rw [if_pos (by simp [q'])] at hQ
        exact hQ
      · rw [if_neg (by have := beq_eq_false_iff_ne.1 q; simp [q']; omega)] at hQ
        refine w170 ⟨_, ty_strs (l := signL) (by decide) (by decide) (by decide), rfl, ?_⟩
        exact signLoop hs signL [] rfl hQ
end
end Go.Proofs.YtgmapdcdmomioaaGreatDoor.Pa
