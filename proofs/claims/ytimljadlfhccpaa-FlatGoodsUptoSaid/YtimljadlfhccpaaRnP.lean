/- How a run of a flat program may end: plain facts. -/
import Derived.Test.YtimljadlfhccpaaProg
import Derived.Test.YtimljadlfhccpaaRnC
import Derived.Test.YtimljadlfhccpaaMCount
set_option linter.all false
set_option linter.all false
set_option linter.all false
namespace Go.Proofs.Ytimljadlfhccpaa
open Go.RowKit
set_option maxHeartbeats 1000000

theorem step_stop_e {t : Term} {e : Env} {s s' : St} {en : Int} {sh : List Int} (h : stepT t e s = .stop false en sh s') : en = 1 ∨ en = 2 ∨ en = 4 := by
  unfold stepT at h
  dsimp only at h
  repeat' split at h
  all_goals first
    | (cases h; done)
    | (injection h with h1 h2 h3 h4; subst h2; omega)
    | (rename_i q hv; injection h with h1 h2 h3 h4; subst h1; subst h2; have := showV_inl _ _ _ _ hv; rcases this with ⟨h, _⟩ | ⟨_, h⟩; cases h; omega)
theorem body_stop_e (t : Term) : ∀ (e : Env) (s s' : St) (en : Int) (sh : List Int), bodyT t e s = .stop false en sh s' → en = 1 ∨ en = 2 ∨ en = 4 := by
  refine Term.ind (P := fun t => ∀ (e : Env) (s s' : St) (en : Int) (sh : List Int), bodyT t e s = .stop false en sh s' → en = 1 ∨ en = 2 ∨ en = 4) (fun t _ ihn e s s' en sh h => ?_) t
  rw [bodyT_eq] at h
  cases hs : stepT t e (worked s) with
  | next j e' s2 =>
    rw [hs] at h
    by_cases hj : j < t.next.length
    · simp only [bodyTs_at t.next j e' s2 _ (List.getElem?_eq_getElem hj)] at h
      exact ihn _ (List.getElem_mem hj) e' s2 s' en sh h
    · simp only [bodyTs_out t.next j e' s2 (by omega)] at h
      cases h
  | call l s2 => rw [hs] at h; cases h
  | stop st en2 sh2 s2 =>
    rw [hs] at h
    injection h with h1 h2 h3 h4
    subst h1; subst h2
    exact step_stop_e hs
theorem loop_stop_e (f : Flat) : ∀ (k : Nat) (t : Term) (e : Env) (c : Nat) (s : St), (loopF f k t e c s).stuck = false → (loopF f k t e c s).e ≠ -1 := by
  intro k
  induction k with
  | zero =>
    intro t e c s h
    rw [loopF_eq] at h ⊢
    cases hb : bodyT t e s with
    | stop st en sh s' =>
      rw [hb] at h
      simp only [behind] at h ⊢
      subst h
      have := body_stop_e t e s s' en sh hb
      omega
    | call l s' => simp only [behind]; omega
  | succ k ih =>
    intro t e c s h
    rw [loopF_eq] at h ⊢
    cases hb : bodyT t e s with
    | stop st en sh s' =>
      rw [hb] at h
      simp only [behind] at h ⊢
      subst h
      have := body_stop_e t e s s' en sh hb
      omega
    | call l s' =>
      rw [hb] at h
      simp only [behind] at h ⊢
      by_cases hc : callOk f l = true
      · rw [if_pos hc] at h ⊢
        exact ih _ _ _ _ h
      · rw [if_neg hc] at h
        cases h
theorem fin_e {f : Flat} {l : List Int} {fuel : Int} (h : (finF f l fuel).stuck = false) : (finF f l fuel).e ≠ -1 := loop_stop_e _ _ _ _ _ _ h
end Go.Proofs.Ytimljadlfhccpaa
