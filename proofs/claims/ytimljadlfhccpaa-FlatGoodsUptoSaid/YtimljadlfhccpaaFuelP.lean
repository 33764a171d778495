/- More fuel: the plain law. -/
import Derived.Test.YtimljadlfhccpaaMFv
set_option linter.all false
set_option linter.all false
set_option linter.all false
set_option linter.all false
namespace Go.Proofs.Ytimljadlfhccpaa
open Go.RowKit
set_option maxHeartbeats 1000000

structure StLe (s s' : St) : Prop where
  made : s.made ≤ s'.made
  work : s.work ≤ s'.work
  writes : s.writes <+: s'.writes
theorem StLe.refl (s : St) : StLe s s := ⟨Nat.le_refl _, Nat.le_refl _, List.prefix_refl _⟩
theorem StLe.trans {a b c : St} (h : StLe a b) (k : StLe b c) : StLe a c := ⟨Nat.le_trans h.made k.made, Nat.le_trans h.work k.work, List.IsPrefix.trans h.writes k.writes⟩
def SOut.st : SOut → St
  | .next _ _ s => s
  | .call _ s => s
  | .stop _ _ _ s => s
def BOut.st : BOut → St
  | .call _ s => s
  | .stop _ _ _ s => s
theorem step_le (t : Term) (e : Env) (s : St) : StLe s (stepT t e s).st := by
  have hr := StLe.refl s
  have hm : ∀ n, StLe s { s with made := s.made + n } := fun n => ⟨Nat.le_add_right _ _, Nat.le_refl _, List.prefix_refl _⟩
  have hw : ∀ x, StLe s { s with writes := s.writes ++ [x] } := fun x => ⟨Nat.le_refl _, Nat.le_refl _, List.prefix_append _ _⟩
  unfold stepT
  dsimp only
  repeat' split
  all_goals first | exact hr | exact hm _ | exact hw _
theorem worked_le (s : St) : StLe s (worked s) := ⟨Nat.le_refl _, Nat.le_succ _, List.prefix_refl _⟩
mutual
theorem body_le : ∀ (t : Term) (e : Env) (s : St), StLe s (bodyT t e s).st
  | .mk k x n i tg a fs next, e, s => by
    rw [bodyT]
    have h := step_le (.mk k x n i tg a fs next) e (worked s)
    have hw := worked_le s
    cases hs : stepT (.mk k x n i tg a fs next) e (worked s) with
    | next j e' s' => rw [hs] at h; exact (hw.trans h).trans (bodies_le next j e' s')
    | call l s' => rw [hs] at h; exact hw.trans h
    | stop st en sh s' => rw [hs] at h; exact hw.trans h
theorem bodies_le : ∀ (l : List Term) (j : Nat) (e : Env) (s : St), StLe s (bodyTs l j e s).st
  | [], j, e, s => by rw [bodyTs]; exact StLe.refl s
  | t :: r, 0, e, s => by rw [bodyTs]; exact body_le t e s
  | t :: r, j + 1, e, s => by rw [bodyTs]; exact bodies_le r j e s
end
theorem loop_le (f : Flat) : ∀ (k : Nat) (t : Term) (e : Env) (c : Nat) (s : St), StLe s (loopF f k t e c s).s := by
  intro k
  induction k with
  | zero =>
    intro t e c s
    have h := body_le t e s
    rw [loopF_eq]
    cases hb : bodyT t e s with
    | stop st en sh s' => rw [hb] at h; exact h
    | call l s' => rw [hb] at h; exact h
  | succ k ih =>
    intro t e c s
    have h := body_le t e s
    rw [loopF_eq]
    cases hb : bodyT t e s with
    | stop st en sh s' => rw [hb] at h; exact h
    | call l s' =>
      rw [hb] at h
      simp only [behind]
      split
      · exact h.trans (ih _ _ _ _)
      · exact h
/-- With more fuel: the same, or the fuel was used up and it goes on from there. -/
theorem loop_more (f : Flat) : ∀ (k k' : Nat) (t : Term) (e : Env) (c : Nat) (s : St), k ≤ k' →
    loopF f k t e c s = loopF f k' t e c s ∨ (loopF f k t e c s).stuck = false ∧ (loopF f k t e c s).e = 3 ∧ StLe (loopF f k t e c s).s (loopF f k' t e c s).s := by
  intro k
  induction k with
  | zero =>
    intro k' t e c s hk
    rw [loopF_eq, loopF_eq]
    cases hb : bodyT t e s with
    | stop st en sh s' => exact .inl rfl
    | call l s' =>
      cases k' with
      | zero => exact .inl rfl
      | succ k' =>
        refine .inr ⟨rfl, rfl, ?_⟩
        simp only [behind]
        split
        · exact loop_le _ _ _ _ _ _
        · exact StLe.refl _
  | succ k ih =>
    intro k' t e c s hk
    cases k' with
    | zero => omega
    | succ k' =>
      rw [loopF_eq, loopF_eq]
      cases hb : bodyT t e s with
      | stop st en sh s' => exact .inl rfl
      | call l s' =>
        simp only [behind]
        split
        · exact ih k' _ _ _ _ (by omega)
        · exact .inl rfl
/-- The plain law of more fuel. -/
structure FuelLaw (A B : Out) : Prop where
  made : A.made ≤ B.made
  bad : A.err ≠ 0 → A.err = B.err ∧ A.e = 0
  same : A.err = 0 → A.e ≠ 3 → B.err = 0 ∧ A.e = B.e ∧ A.writes = B.writes ∧ A.shows = B.shows
  on : A.err = 0 → A.e = 3 → B.err = 250 ∨ A.writes = B.writes.take A.writes.length
theorem FuelLaw.refl (A : Out) (h : A.err ≠ 0 → A.e = 0) : FuelLaw A A := ⟨Nat.le_refl _, fun k => ⟨rfl, h k⟩, fun k _ => ⟨k, rfl, rfl, rfl⟩, fun _ _ => .inr (by simp)⟩
theorem out_bad (fin : Fin') (h : (outOf fin).err ≠ 0) : (outOf fin).e = 0 := by
  unfold outOf at h ⊢
  split
  · rfl
  · rename_i hs
    rw [if_neg hs] at h
    exact absurd rfl h
theorem fuel_plain (f : Flat) (l : List Int) (a b : Int) (ha : 0 ≤ a) (hab : a ≤ b) (hb : b ≤ 1048576) : FuelLaw (runF f l a) (runF f l b) := by
  unfold runF
  split
  · exact FuelLaw.refl _ (fun _ => rfl)
  · by_cases hl : 256 < l.length
    · rw [if_pos (.inl hl), if_pos (.inl hl)]
      exact FuelLaw.refl _ (fun _ => rfl)
    · rw [if_neg (by omega), if_neg (by omega)]
      unfold finF
      rcases loop_more f a.toNat b.toNat (funAt f f.main).2.2 (bindEnv (funAt f f.main).2.1 [inputV l]) 0 ⟨0, 0, []⟩ (by omega) with h | ⟨h1, h2, h3⟩
      · rw [h]
        exact FuelLaw.refl _ (out_bad _)
      · generalize loopF f a.toNat (funAt f f.main).2.2 (bindEnv (funAt f f.main).2.1 [inputV l]) 0 ⟨0, 0, []⟩ = A at *
        generalize loopF f b.toNat (funAt f f.main).2.2 (bindEnv (funAt f f.main).2.1 [inputV l]) 0 ⟨0, 0, []⟩ = B at *
        have e1 : outOf A = ⟨A.e, A.s.writes, if A.e = 1 then A.shows else [], A.steps, A.s.made, A.s.work, 0⟩ := by unfold outOf; rw [if_neg (by rw [h1]; decide)]
        have e2 : (outOf B).made = B.s.made := by unfold outOf; split <;> rfl
        refine ⟨by rw [e1, e2]; exact h3.made, fun k => absurd (by rw [e1]) k, fun _ k => absurd (by rw [e1]; exact h2) k, fun _ _ => ?_⟩
        by_cases hB : B.stuck = true
        · exact .inl (by unfold outOf; rw [if_pos hB])
        · refine .inr ?_
          have e3 : (outOf B).writes = B.s.writes := by unfold outOf; rw [if_neg hB]
          rw [e1, e3]
          exact List.prefix_iff_eq_take.1 h3.writes
end Go.Proofs.Ytimljadlfhccpaa
