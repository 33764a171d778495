/- A word of a kind, as the program asks it, is what the document says. -/
import Derived.Test.YtgmapdcdmomioaaGreatDoorPfG
set_option linter.all false
set_option linter.all false
set_option autoImplicit false
set_option maxRecDepth 100000
namespace Go.Proofs.YtgmapdcdmomioaaGreatDoor.Pa
open Go Go.Proofs.YtgmapdcdmomioaaGreatDoor.Am
theorem runN_all (p : Int → Bool) : ∀ r : Str, runN p r = r.length ↔ (r.all fun c => p c.toNat) = true
  | [] => by simp [runN]
  | c :: r => by
    have ih := runN_all p r
    have := runN_le p r
    unfold runN at *
    rw [List.takeWhile_cons, List.all_cons]
    cases p c.toNat
    · simp
    · simp only [if_true, List.length_cons, Bool.true_and, ← ih]
      omega
theorem wordF_kind (k : Int) (hk : k ≠ 1) (s : Str) : (wordF k s).1.1 = 0 ∨ (wordF k s).1.1 = k := by
  unfold wordF
  split
  · exact .inl rfl
  · refine .inr ?_
    show (if (k == 1 && keyB s) = true then (5 : Int) else k) = k
    rw [show (k == 1) = false by simpa using hk]
    rfl
theorem numF_kind (s : Str) : (numF s).1.1 = 0 ∨ (numF s).1.1 = 4 := by
  unfold numF
  split
  · exact .inr rfl
  · exact .inl rfl
/-- What a token's kind says of its first letter. -/
theorem tokF_kind (c : UInt8) (r : Str) : (smB c.toNat = true ∧ tokF (c :: r) = ((wordF 1 ((c :: r).take (1 + runN ptB r))).1, 1 + runN ptB r, (wordF 1 ((c :: r).take (1 + runN ptB r))).2)) ∨
    (smB c.toNat = false ∧ cpB c.toNat = true ∧ tokF (c :: r) = ((wordF 2 ((c :: r).take (1 + runN ptB r))).1, 1 + runN ptB r, (wordF 2 ((c :: r).take (1 + runN ptB r))).2)) ∨
    (smB c.toNat = false ∧ cpB c.toNat = false ∧ ((tokF (c :: r)).1.1 = 0 ∨ (tokF (c :: r)).1.1 = 3 ∨ (tokF (c :: r)).1.1 = 4 ∨ (tokF (c :: r)).1.1 = 6)) := by
  cases h1 : smB c.toNat with
  | true => exact .inl ⟨rfl, by simp only [tokF]; rw [if_pos h1]⟩
  | false =>
    cases h2 : cpB c.toNat with
    | true => exact .inr (.inl ⟨rfl, rfl, by simp only [tokF]; rw [if_neg (by simp [h1]), if_pos h2]⟩)
    | false =>
      refine .inr (.inr ⟨rfl, rfl, ?_⟩)
      simp only [tokF]
      generalize (c.toNat == 39 && _) = b3
      rw [if_neg (by simp [h1]), if_neg (by simp [h2])]
      split
      · rcases wordF_kind 3 (by decide) (r.take (runN ptB r)) with h | h
        · exact .inl h
        · exact .inr (.inl h)
      · split
        · rcases numF_kind ((c :: r).take (1 + runN dgB r)) with h | h
          · exact .inl h
          · exact .inr (.inr (.inl h))
        · split
          · exact .inr (.inr (.inr rfl))
          · exact .inl rfl
theorem decF {p : Prop} [Decidable p] (h : ¬ p) : decide p = false := decide_eq_false h
theorem speltB_low (s : Str) : speltB 1 s = wLow s := by
  cases s with
  | nil => rfl
  | cons c r =>
    unfold speltB
    rw [show speltS 1 (c :: r) = c :: r from rfl]
    simp only [reduceCtorEq, false_or, List.length_cons]
    unfold wLow wordB
    simp only [cond_true]
    split
    · rename_i h
      rw [decF (p := r.length < 32) (by omega)]
      rfl
    · rename_i h
      have hm := runN_all ptB r
      rcases tokF_kind c r with ⟨h1, h2⟩ | ⟨h1, h2, h3⟩ | ⟨h1, h2, h3⟩
      · rw [h2, h1]
        cases ha : r.all (fun c => ptB c.toNat) with
        | false =>
          have hne : ¬ runN ptB r = r.length := fun e => by rw [hm.1 e] at ha; cases ha
          simp only [Bool.and_false, Bool.false_and]
          refine decF fun hh => hne ?_
          have := hh.2.1
          omega
        | true =>
          have he := hm.2 ha
          rw [he]
          have ht : (c :: r).take (1 + r.length) = c :: r := by rw [List.take_of_length_le]; simp [Nat.add_comm]
          rw [ht]
          unfold wordF
          by_cases hl : r.length < 32
          · rw [decide_eq_true hl, if_neg (by simp only [List.length_cons]; omega)]
            cases hk : keyB (c :: r)
            · simp; omega
            · simp
          · rw [decF hl, if_pos (by simp only [List.length_cons]; omega)]
            simp
      · rw [h1]
        simp only [Bool.false_and, Bool.and_false]
        refine decF fun hh => ?_
        have e := congrArg (·.1) hh.2.2
        rw [h3] at e
        rcases wordF_kind 2 (by decide) ((c :: r).take (1 + runN ptB r)) with h | h
        · have e : (wordF 2 ((c :: r).take (1 + runN ptB r))).1.1 = 1 := e
          omega
        · have e : (wordF 2 ((c :: r).take (1 + runN ptB r))).1.1 = 1 := e
          omega
      · rw [h1]
        simp only [Bool.false_and, Bool.and_false]
        refine decF fun hh => ?_
        have e : (tokF (c :: r)).1.1 = 1 := congrArg (·.1) hh.2.2
        omega
theorem speltB_up (s : Str) : speltB 2 s = wUp s := by
  cases s with
  | nil => rfl
  | cons c r =>
    unfold speltB
    rw [show speltS 2 (c :: r) = c :: r from rfl]
    simp only [reduceCtorEq, false_or, List.length_cons]
    unfold wUp wordB
    simp only [cond_false]
    split
    · rename_i h
      rw [decF (p := r.length < 32) (by omega)]
      rfl
    · rename_i h
      have hm := runN_all ptB r
      rcases tokF_kind c r with ⟨h1, h2⟩ | ⟨h1, h2, h3⟩ | ⟨h1, h2, h3⟩
      · have hc : cpB c.toNat = false := by
          simp only [smB, Bool.and_eq_true, decide_eq_true_eq] at h1
          simp only [cpB]
          rw [decF (p := (c.toNat : Int) ≤ 90) (by omega), Bool.and_false]
        rw [h2, hc]
        simp only [Bool.false_and, Bool.and_false]
        refine decF fun hh => ?_
        have e := congrArg (·.1) hh.2.2
        unfold wordF at e
        simp only at e
        split at e
        · simp at e
        · split at e <;> simp at e
      · rw [h3, h2]
        cases ha : r.all (fun c => ptB c.toNat) with
        | false =>
          have hne : ¬ runN ptB r = r.length := fun e => by rw [hm.1 e] at ha; cases ha
          simp only [Bool.and_false, Bool.false_and]
          refine decF fun hh => hne ?_
          have := hh.2.1
          omega
        | true =>
          have he := hm.2 ha
          rw [he]
          have ht : (c :: r).take (1 + r.length) = c :: r := by rw [List.take_of_length_le]; simp [Nat.add_comm]
          rw [ht]
          unfold wordF
          by_cases hl : r.length < 32
          · rw [decide_eq_true hl, if_neg (by simp only [List.length_cons]; omega)]
            simp
            omega
          · rw [decF hl, if_pos (by simp only [List.length_cons]; omega)]
            simp
      · rw [h2]
        simp only [Bool.false_and, Bool.and_false]
        refine decF fun hh => ?_
        have e : (tokF (c :: r)).1.1 = 2 := congrArg (·.1) hh.2.2
        omega
theorem signF_quote (s : Str) : signF (39 :: s) signL = none := by
  have key : ∀ l : List Str, (∀ x ∈ l, ∃ d t, x = d :: t ∧ d ≠ 39) → signF (39 :: s) l = none := by
    intro l
    induction l with
    | nil => intro _; rfl
    | cons x l ih =>
      intro h
      obtain ⟨d, t, rfl, hd⟩ := h x List.mem_cons_self
      unfold signF
      rw [if_neg ?_]
      · exact ih fun y hy => h y (List.mem_cons_of_mem _ hy)
      · rw [List.isPrefixOf_iff_prefix]
        intro hp
        rw [List.cons_prefix_cons] at hp
        exact hd hp.1
  refine key signL fun x hx => ?_
  simp only [signL, List.mem_cons, List.not_mem_nil, or_false] at hx
  rcases hx with rfl | rfl | rfl | rfl | rfl | rfl | rfl | rfl | rfl | rfl | rfl | rfl | rfl | rfl <;> exact ⟨_, _, rfl, by decide⟩
theorem speltB_var (s : Str) : speltB 3 s = wVar s := by
  unfold speltB
  rw [show speltS 3 s = 39 :: s from rfl]
  simp only [reduceCtorEq, false_or, List.length_cons]
  unfold wVar
  have e1 : smB ((39 : UInt8).toNat : Int) = false := by decide
  have e2 : cpB ((39 : UInt8).toNat : Int) = false := by decide
  have e3 : ((39 : UInt8).toNat == 39) = true := by decide
  have e4 : ((39 : UInt8).toNat == 126 || dgB ((39 : UInt8).toNat : Int)) = false := by decide
  cases s with
  | nil => decide
  | cons c r =>
    simp only [List.length_cons, wordB, cond_true]
    split
    · rename_i h
      rw [decF (p := r.length < 32) (by omega)]
      rfl
    · rename_i h
      have hb : ptB c.toNat = true → runN ptB (c :: r) = 1 + runN ptB r := fun hp => by
        have := runN_drop ptB (s := c :: r) (i := 0) (by simp)
        simp only [List.drop_zero, List.getElem_cons_zero, List.drop_succ_cons] at this
        rw [hp] at this
        exact this
      simp only [tokF]
      rw [e1, e2, e3, e4, signF_quote]
      simp only [Bool.false_eq_true, if_false, Bool.true_and]
      cases hs : smB c.toNat with
      | false => simp
      | true =>
        have hp : ptB c.toNat = true := by simp [ptB, hs]
        rw [hb hp]
        have hm := runN_all ptB r
        rw [if_pos (by simp; omega)]
        cases ha : r.all (fun c => ptB c.toNat) with
        | false =>
          have hne : ¬ runN ptB r = r.length := fun e => by rw [hm.1 e] at ha; cases ha
          simp only [Bool.and_false]
          refine decF fun hh => hne ?_
          have := hh.2.1
          omega
        | true =>
          have he := hm.2 ha
          rw [he]
          have ht : (c :: r).take (1 + r.length) = c :: r := by rw [List.take_of_length_le]; simp [Nat.add_comm]
          rw [ht]
          unfold wordF
          by_cases hl : r.length < 32
          · rw [decide_eq_true hl, if_neg (by simp only [List.length_cons]; omega)]
            simp
            omega
          · rw [decF hl, if_pos (by simp only [List.length_cons]; omega)]
            simp
section
variable {s : Str} {g : Glob} {Qf : Out → Glob → Prop}
theorem wordLow_ok (hs : s.length ≤ 2 ^ 40) (hQ : Qf (.val (.d (.bool (wLow s)))) g) : EvF TT 136 [.int .i64 1, .str s] g Qf := parseword_ok (by decide) hs (fun h => absurd h (by decide)) (qcast hQ (speltB_low s).symm)
theorem wordUp_ok (hs : s.length ≤ 2 ^ 40) (hQ : Qf (.val (.d (.bool (wUp s)))) g) : EvF TT 136 [.int .i64 2, .str s] g Qf := parseword_ok (by decide) hs (fun h => absurd h (by decide)) (qcast hQ (speltB_up s).symm)
theorem wordVar_ok (hs : s.length < 2 ^ 40) (hQ : Qf (.val (.d (.bool (wVar s)))) g) : EvF TT 136 [.int .i64 3, .str s] g Qf := parseword_ok (by decide) (by omega) (fun _ => hs) (qcast hQ (speltB_var s).symm)
end
end Go.Proofs.YtgmapdcdmomioaaGreatDoor.Pa
