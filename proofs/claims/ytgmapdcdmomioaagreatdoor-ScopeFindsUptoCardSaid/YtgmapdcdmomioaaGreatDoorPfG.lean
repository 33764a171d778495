/- The program's question whether a text is a word of a kind. -/
import Derived.Test.YtgmapdcdmomioaaGreatDoorPfF
set_option linter.all false
set_option linter.all false
set_option autoImplicit false
set_option maxRecDepth 100000
namespace Go.Proofs.YtgmapdcdmomioaaGreatDoor.Pa
open Go Go.Proofs.YtgmapdcdmomioaaGreatDoor.Am
theorem leOf {a b : Nat} (h : a ≤ b) : Nat.le a b := h
/-- A token's text; is it that token? -/
def speltS (k : Int) (s : Str) : Str := if k = 3 then 39 :: s else s
def speltB (k : Int) (s : Str) : Bool :=
  let s' := speltS k s
  if s' = [] ∨ 33 < s'.length then false
  else decide ((tokF s').2.2 = 0 ∧ ((tokF s').2.1 = s'.length ∧ (tokF s').1 = (k, s, 0)))
section
variable {n : Int} {s : Str} {g : Glob} {Qf : Out → Glob → Prop}
theorem signF_len {s : Str} : ∀ {l : List Str} {x : Str}, (∀ y ∈ l, y.length ≤ 2 ^ 40) → signF s l = some x → x.length ≤ 2 ^ 40
  | [], x, _, h => by cases h
  | y :: l, x, hl, h => by
    unfold signF at h
    split at h
    · cases h
      exact hl _ List.mem_cons_self
    · exact signF_len (fun z hz => hl _ (List.mem_cons_of_mem _ hz)) h
theorem numF_len (s : Str) : (numF s).1.2.1.length ≤ 2 ^ 40 := by unfold numF; split <;> simp
theorem tokF_len {s : Str} (hs : s.length ≤ 2 ^ 40) : (tokF s).1.2.1.length ≤ 2 ^ 40 := by
  cases s with
  | nil => simp [tokF]
  | cons c r =>
    simp only [tokF]
    have hr : r.length ≤ 2 ^ 40 := by rw [List.length_cons] at hs; omega
    generalize (c.toNat == 39 && _) = b3
    split
    · exact wordF_len _ (take_len hs)
    · split
      · exact wordF_len _ (take_len hs)
      · split
        · exact wordF_len _ (take_len hr)
        · split
          · exact numF_len _
          · split
            · rename_i x hx
              exact signF_len (l := signL) (by decide) hx
            · simp
theorem tkEq {a b : Tk} : (a.1 == b.1 && (a.2.1 == b.2.1 && (a.2.2 == b.2.2 && (((0 : Int) == 0) && true)))) = decide (a = b) := by
  rw [Bool.eq_iff_iff]
  obtain ⟨a1, a2, a3⟩ := a
  obtain ⟨b1, b2, b3⟩ := b
  simp
theorem lexspelt_ok {k : Int} (hk : k ≠ 4) (hs : s.length ≤ 2 ^ 40) (h3 : k = 3 → s.length < 2 ^ 40) (hQ : speltB k s = true → Qf (.val (.tuple [.d (.str (speltS k s)), .d (.bool true)])) g) (hQ' : speltB k s = false → ∀ t, t.length ≤ 33 → Qf (.val (.tuple [.d (.str t), .d (.bool false)])) g) : EvF TT 221 [tkD (k, s, 0) 0] g Qf := by
  refine w221 (ty_tok (by show s.length ≤ _; omega)) ?_
  have tail : ∀ s' : Str, s' ≠ [] → s'.length ≤ 33 → speltS k s = s' → EvF TT 97 [.str s'] g fun out g' => Outc (fun x => Qf (Out.panic x) g') (fun v => ∃ x, HasTy TT 43 x ∧ ∃ n n_1, RetT v [x, Dat.int IntKind.i64 n, Dat.int IntKind.i64 n_1] ∧ Br (n_1 == 0) (Br (n == (s'.length : Int)) (Qf (Out.val (Val.tuple [Val.d (Dat.str s'), Val.d (Dat.bool (intOf (fld x 0) == k && (strOf (fld x 1) == s && (intOf (fld x 2) == 0 && (intOf (fld x 3) == 0 && true)))))])) g') (Qf (Out.val (Val.tuple [Val.d (Dat.str s'), Val.d (Dat.bool false)])) g')) (Qf (Out.val (Val.tuple [Val.d (Dat.str s'), Val.d (Dat.bool false)])) g')) out := by
    intro s' h1 h2 h3
    have hB : speltB k s = decide ((tokF s').2.2 = 0 ∧ ((tokF s').2.1 = s'.length ∧ (tokF s').1 = (k, s, 0))) := by
      unfold speltB
      rw [h3]
      simp only [h1, false_or]
      rw [if_neg (by omega)]
    refine lextoken_ok h1 (by omega) ⟨_, ty_tok (tokF_len (by omega)), _, _, ⟨rfl, rfl, rfl, trivial⟩, Br_iff.2 ⟨fun q => Br_iff.2 ⟨fun q' => ?_, fun q' => ?_⟩, fun q => ?_⟩⟩
    · have q := beq_iff_eq.1 q
      have q' : (tokF s').2.1 = s'.length := by have := beq_iff_eq.1 q'; omega
      have e : (intOf (fld (tkD (tokF s').1 0) 0) == k && (strOf (fld (tkD (tokF s').1 0) 1) == s && (intOf (fld (tkD (tokF s').1 0) 2) == 0 && (intOf (fld (tkD (tokF s').1 0) 3) == 0 && true)))) = speltB k s := by
        rw [hB]
        refine (tkEq (a := (tokF s').1) (b := (k, s, 0))).trans (decide_eq_decide.2 ?_)
        simp [q, q']
      rw [e]
      cases hb : speltB k s with
      | true => rw [← h3]; exact hQ hb
      | false => exact hQ' hb _ h2
    · refine hQ' ?_ _ h2
      rw [hB]
      refine decide_eq_false fun h => ?_
      have := beq_eq_false_iff_ne.1 q'
      omega
    · refine hQ' ?_ _ h2
      rw [hB]
      refine decide_eq_false fun h => ?_
      have := beq_eq_false_iff_ne.1 q
      omega
  refine Br_iff.2 ⟨fun q => ?_, fun q => Br_iff.2 ⟨fun q' => ?_, fun q' => ?_⟩⟩
  · have q : k = 3 := beq_iff_eq.1 q
    have e : speltS k s = 39 :: s := if_pos q
    have h3 := h3 q
    refine ⟨leOf (by show 1 + s.length ≤ _; omega), Br_iff.2 ⟨fun q' => ?_, fun q' => ?_⟩⟩
    · refine hQ' ?_ [] (by simp)
      unfold speltB
      rw [e]
      have q' := of_decide_eq_true q'
      have : 33 < (39 :: s).length := by have q' : (33 : Int) < ((39 :: s).length : Int) := q'; omega
      simp only [this, or_true, if_true]
    · have q' : ¬ (33 : Int) < ((39 :: s).length : Int) := of_decide_eq_false q'
      exact tail (39 :: s) (by simp) (by omega) e
  · exact absurd (beq_iff_eq.1 q') hk
  · have e : speltS k s = s := if_neg (beq_eq_false_iff_ne.1 q)
    refine Br_iff.2 ⟨fun q1 => ?_, fun q1 => Br_iff.2 ⟨fun q2 => ?_, fun q2 => ?_⟩⟩
    · have q1 : s = [] := beq_iff_eq.1 q1
      refine hQ' ?_ [] (by simp)
      unfold speltB
      rw [e, q1]
      rfl
    · have q2 : (33 : Int) < (s.length : Int) := of_decide_eq_true q2
      refine hQ' ?_ [] (by simp)
      unfold speltB
      rw [e]
      have : 33 < s.length := by omega
      simp only [this, or_true, if_true]
    · have q1 : ¬ s = [] := beq_eq_false_iff_ne.1 q1
      have q2 : ¬ (33 : Int) < (s.length : Int) := of_decide_eq_false q2
      exact tail s q1 (by omega) e
theorem join1_ok {t sep : Str} (ht : t.length ≤ 2 ^ 40) (hp : sep.length ≤ 2 ^ 40) (hQ : Qf (.val (.d (.str t))) g) : EvF TT 222 [.sl 1 [.str t], .str sep] g Qf := by
  refine w222 (ty_strs (l := [t]) (by simp) (fun s hs => by simp at hs; subst hs; exact ht) (by simp)) hp ?_
  exact ⟨inB (i := 0) (by simp [elsOf]), hQ⟩
theorem fitsStr {n : Nat} (h : n ≤ 2 ^ 30) : Fits n 16 := ⟨by omega, by omega⟩
theorem parseword_ok {k : Int} (hk : k ≠ 4) (hs : s.length ≤ 2 ^ 40) (h3 : k = 3 → s.length < 2 ^ 40) (hQ : Qf (.val (.d (.bool (speltB k s)))) g) : EvF TT 136 [.int .i64 k, .str s] g Qf := by
  refine w136 (by omega) ?_
  have hty : HasTy TT 37 (.sl 4 [tkD (k, s, 0) 0]) := sl_ty (xs := [tkD (k, s, 0) 0]) (by kernel_rfl) (by kernel_rfl : TT.size 43 = some 4) ⟨by simp, fun b hb => by
    have e : TT.bytes 43 = some 40 := by kernel_rfl
    rw [e] at hb
    cases hb
    simp⟩ (fun x hx => by simp at hx; subst hx; exact ty_tok (by show s.length ≤ _; omega))
  refine w200 hty (w200_5 ?_)
  refine ⟨inB (i := 0) (by simp [elsOf]), lexspelt_ok hk hs h3 (fun hb => ?_) (fun hb t ht => ?_)⟩
  · have hl : (speltS k s).length ≤ 33 := by
      unfold speltB at hb
      simp only at hb
      split at hb
      · cases hb
      · omega
    refine ⟨_, leOf (by omega), _, ⟨rfl, rfl, trivial⟩, fitsStr (by simp), w200_5 ?_⟩
    refine join1_ok (by omega) (by simp) ⟨_, leOf (by omega), rfl, Br_iff.2 ⟨fun q => ?_, fun q => ?_⟩⟩
    · have q := of_decide_eq_true q
      omega
    · refine ⟨_, leOf (by omega), _, ⟨rfl, rfl, trivial⟩, ?_⟩
      rw [hb] at hQ
      exact hQ
  · refine ⟨_, leOf (by omega), _, ⟨rfl, rfl, trivial⟩, ?_⟩
    refine ⟨[], leOf (by simp), _, ⟨rfl, rfl, trivial⟩, ?_⟩
    rw [hb] at hQ
    exact hQ
end
end Go.Proofs.YtgmapdcdmomioaaGreatDoor.Pa
