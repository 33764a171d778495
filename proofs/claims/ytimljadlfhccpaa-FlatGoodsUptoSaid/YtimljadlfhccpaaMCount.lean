/- The counts: the plain law. The counts: how much work there is at most. -/
import Derived.Test.YtimljadlfhccpaaFuelP
set_option linter.all false
set_option linter.all false
set_option linter.all false
namespace Go.Proofs.Ytimljadlfhccpaa
open Go.RowKit
set_option maxHeartbeats 1000000

/-- Work is done, and no more is made than the work could make. -/
structure Cnt (s s' : St) : Prop where
  work : s.work + 1 ≤ s'.work
  made : s'.made + 65 * s.work ≤ s.made + 65 * s'.work
theorem Cnt.trans {a b c : St} (h : Cnt a b) (k : Cnt b c) : Cnt a c := ⟨by have := h.work; have := k.work; omega, by have := h.made; have := k.made; omega⟩
structure Stp (s s' : St) : Prop where
  work : s'.work = s.work
  made : s'.made ≤ s.made + 65
theorem step_stp {nf : Nat} {main : Int} {t : Term} (hf : formedB nf main t = true) (e : Env) (s : St) : Stp s (stepT t e s).st := by
  have hr : Stp s s := ⟨rfl, by omega⟩
  have hm : ∀ n, n ≤ 65 → Stp s { s with made := s.made + n } := fun n hn => ⟨rfl, by simp; omega⟩
  have hw : ∀ x, Stp s { s with writes := s.writes ++ [x] } := fun x => ⟨rfl, by simp⟩
  have h2 : t.kind = 2 → t.args.length ≤ 64 := fun k => by rw [formedB_2 k, decide_eq_true_iff] at hf; omega
  have h9 : t.kind = 9 → t.args.length ≤ 64 := fun k => by rw [formedB_9 k, decide_eq_true_iff] at hf; omega
  unfold stepT
  dsimp only
  repeat' split
  all_goals first | exact hr | exact hw _ | exact hm (t.args.length + 1) (by have := h2 (by assumption); omega) | exact hm (t.args.length + 1) (by have := h9 (by assumption); omega)
theorem step_cnt {nf : Nat} {main : Int} {t : Term} (hf : formedB nf main t = true) (e : Env) (s : St) : Cnt s (stepT t e (worked s)).st := by
  have h := step_stp hf e (worked s)
  have h1 := h.work
  have h2 := h.made
  simp only [worked] at h1 h2
  refine ⟨?_, ?_⟩
  · exact Nat.le_of_eq h1.symm
  · have e1 : (stepT t e (worked s)).st.work = s.work + 1 := h1
    have e2 : (stepT t e (worked s)).st.made ≤ s.made + 65 := h2
    omega
theorem body_cnt {f : Flat} {vl : List Int} (t : Term) : ∀ (e : Env) (s : St), Ready f vl e t → Cnt s (bodyT t e s).st := by
  refine Term.ind (P := fun t => ∀ (e : Env) (s : St), Ready f vl e t → Cnt s (bodyT t e s).st) (fun t _ ihn e s h => ?_) t
  have hc := step_cnt h.formed e s
  rw [bodyT_eq]
  cases hs : stepT t e (worked s) with
  | next j e' s' =>
    rw [hs] at hc
    have hj := stepT_lt h.formed hs
    have h' := (stepT_next h hs).2.2.2 hj
    simp only [bodyTs_at t.next j e' s' _ (List.getElem?_eq_getElem hj)]
    exact hc.trans (ihn _ (List.getElem_mem hj) e' s' h')
  | call l s' => rw [hs] at hc; exact hc
  | stop st en sh s' => rw [hs] at hc; exact hc
theorem call_fun {f : Flat} (hF : GoodF f) {l : List Val} (h : callOk f l = true) : ∃ i, ∃ hi : i < f.funs.length, funAt f (headN l) = f.funs[i] ∧ f.funs[i].2.1.length = l.length := by
  cases l with
  | nil => exact absurd h (by simp [callOk])
  | cons v r =>
    simp [callOk] at h
    have hn : headN (v :: r) = v.n := rfl
    rw [hn]
    by_cases hi : v.n.toNat < f.funs.length
    · have he : funAt f v.n = f.funs[v.n.toNat] := by simp [funAt, List.getD_eq_getElem?_getD, hi]
      rw [he] at h
      exact ⟨_, hi, he, by simpa using h.2⟩
    · have he : funAt f v.n = fun0 := by simp [funAt, List.getD_eq_getElem?_getD, List.getElem?_eq_none (Nat.le_of_not_lt hi)]
      rw [he] at h
      simp [fun0] at h
theorem loop_cnt {f : Flat} (hF : GoodF f) : ∀ (k i : Nat) (hi : i < f.funs.length) (e : Env) (c : Nat) (s : St), Ready f (placesF f.funs[i]) e f.funs[i].2.2 →
    Cnt s (loopF f k f.funs[i].2.2 e c s).s ∧ c ≤ (loopF f k f.funs[i].2.2 e c s).steps ∧ (loopF f k f.funs[i].2.2 e c s).steps ≤ c + k ∧ s.work + (loopF f k f.funs[i].2.2 e c s).steps ≤ c + (loopF f k f.funs[i].2.2 e c s).s.work := by
  intro k
  induction k with
  | zero =>
    intro i hi e c s h
    have hc := body_cnt _ e s h
    rw [loopF_eq]
    cases hb : bodyT f.funs[i].2.2 e s with
    | stop st en sh s' => rw [hb] at hc; have := hc.work; simp only [behind, BOut.st] at *; exact ⟨hc, by omega, by omega, by omega⟩
    | call l s' => rw [hb] at hc; have := hc.work; simp only [behind, BOut.st] at *; exact ⟨hc, by omega, by omega, by omega⟩
  | succ k ih =>
    intro i hi e c s h
    have hc := body_cnt _ e s h
    rw [loopF_eq]
    cases hb : bodyT f.funs[i].2.2 e s with
    | stop st en sh s' => rw [hb] at hc; have := hc.work; simp only [behind, BOut.st] at *; exact ⟨hc, by omega, by omega, by omega⟩
    | call l s' =>
      rw [hb] at hc
      have := hc.work
      simp only [behind, BOut.st] at *
      split
      · rename_i hok
        obtain ⟨i', hi', he, hl⟩ := call_fun hF hok
        rw [he]
        obtain ⟨h1, h2, h3, h4⟩ := ih i' hi' (bindEnv f.funs[i'].2.1 l) (c + 1) s' (hF.ready hi' hl)
        exact ⟨hc.trans h1, by omega, by omega, by omega⟩
      · exact ⟨hc, by simp only; omega, by simp only; omega, by simp only; omega⟩
/-- The plain law of the counts. -/
theorem count_plain {f : Flat} (hg : goodFlat f = true) (l : List Int) (fuel : Int) (hl : l.length ≤ 256) (h0 : 0 ≤ fuel) (h1 : fuel ≤ 1048576) :
    ((runF f l fuel).steps : Int) ≤ fuel ∧ (runF f l fuel).steps ≤ (runF f l fuel).work ∧ 1 ≤ (runF f l fuel).work ∧ (runF f l fuel).made ≤ 65 * (runF f l fuel).work := by
  rw [runF_go hg (by omega)]
  have hF := goodFlat_F hg
  have e1 : ∀ fin, (outOf fin).steps = fin.steps ∧ (outOf fin).work = fin.s.work ∧ (outOf fin).made = fin.s.made := fun fin => by unfold outOf; split <;> exact ⟨rfl, rfl, rfl⟩
  rw [(e1 _).1, (e1 _).2.1, (e1 _).2.2]
  have hmain : ∃ i, ∃ hi : i < f.funs.length, funAt f f.main = f.funs[i] ∧ f.funs[i].2.1.length = [inputV l].length := by
    have h0 := hF.m0
    have h1 := hF.m1
    have hi : f.main.toNat < f.funs.length := by omega
    obtain ⟨_, _, _, h4, _⟩ := goodFun_parts (hF.funs _ hi)
    exact ⟨f.main.toNat, hi, by simp [funAt, List.getD_eq_getElem?_getD, hi], h4 (by omega)⟩
  obtain ⟨i, hi, he, hlen⟩ := hmain
  unfold finF
  rw [he]
  obtain ⟨g1, g2, g3, g4⟩ := loop_cnt hF fuel.toNat i hi (bindEnv f.funs[i].2.1 [inputV l]) 0 ⟨0, 0, []⟩ (hF.ready hi hlen)
  have w1 := g1.work
  have m1 := g1.made
  simp only at w1 m1 g4
  exact ⟨by omega, by omega, by omega, by omega⟩
end Go.Proofs.Ytimljadlfhccpaa
set_option linter.all false
namespace Go.Proofs.Ytimljadlfhccpaa
open Go.RowKit
set_option maxHeartbeats 1000000

theorem stepT_work (t : Term) (e : Env) (s : St) : (stepT t e s).st.work = s.work := by
  unfold stepT
  dsimp only
  repeat' split
  all_goals rfl
theorem bodyTs_out : ∀ (l : List Term) (j : Nat) (e : Env) (s : St), l.length ≤ j → bodyTs l j e s = .stop true 0 [] s
  | [], _, _, _, _ => by rw [bodyTs]
  | t :: r, 0, e, s, h => by simp at h
  | t :: r, j + 1, e, s, h => by rw [bodyTs]; exact bodyTs_out r j e s (by simpa using h)
theorem body_work (t : Term) : ∀ (e : Env) (s : St), (bodyT t e s).st.work ≤ s.work + tcount t := by
  refine Term.ind (P := fun t => ∀ (e : Env) (s : St), (bodyT t e s).st.work ≤ s.work + tcount t) (fun t _ ihn e s => ?_) t
  have hw := stepT_work t e (worked s)
  have h1 : (worked s).work = s.work + 1 := rfl
  rw [bodyT_eq, tcount_eq]
  cases hs : stepT t e (worked s) with
  | next j e' s' =>
    rw [hs] at hw
    have hw' : s'.work = s.work + 1 := hw
    by_cases hj : j < t.next.length
    · simp only [bodyTs_at t.next j e' s' _ (List.getElem?_eq_getElem hj)]
      have h2 := ihn _ (List.getElem_mem hj) e' s'
      have h3 := tcounts_at t.next j hj
      omega
    · simp only [bodyTs_out t.next j e' s' (by omega)]
      show s'.work ≤ _
      omega
  | call l s' => rw [hs] at hw; have hw' : s'.work = s.work + 1 := hw; show s'.work ≤ _; omega
  | stop st en sh s' => rw [hs] at hw; have hw' : s'.work = s.work + 1 := hw; show s'.work ≤ _; omega
theorem loop_work {f : Flat} (hF : GoodF f) (K : Nat) (hK : ∀ i (hi : i < f.funs.length), tcount f.funs[i].2.2 ≤ K) : ∀ (k i : Nat) (hi : i < f.funs.length) (e : Env) (c : Nat) (s : St),
    (loopF f k f.funs[i].2.2 e c s).s.work + c * K ≤ s.work + ((loopF f k f.funs[i].2.2 e c s).steps + 1) * K := by
  intro k
  induction k with
  | zero =>
    intro i hi e c s
    have hb := body_work f.funs[i].2.2 e s
    have ht := hK i hi
    rw [loopF_eq]
    cases h : bodyT f.funs[i].2.2 e s with
    | stop st en sh s' => rw [h] at hb; simp only [behind, BOut.st, Nat.add_mul] at *; omega
    | call l s' => rw [h] at hb; simp only [behind, BOut.st, Nat.add_mul] at *; omega
  | succ k ih =>
    intro i hi e c s
    have hb := body_work f.funs[i].2.2 e s
    have ht := hK i hi
    rw [loopF_eq]
    cases h : bodyT f.funs[i].2.2 e s with
    | stop st en sh s' => rw [h] at hb; simp only [behind, BOut.st, Nat.add_mul] at *; omega
    | call l s' =>
      rw [h] at hb
      simp only [behind, BOut.st] at *
      split
      · rename_i hok
        obtain ⟨i', hi', he, hl⟩ := call_fun hF hok
        rw [he]
        have h3 := ih i' hi' (bindEnv f.funs[i'].2.1 l) (c + 1) s'
        simp only [Nat.add_mul] at h3 ⊢
        omega
      · simp only [Nat.add_mul]; omega
/-- All that the law asks of the counts. -/
theorem count_bound {f : Flat} (hg : goodFlat f = true) (l : List Int) (fuel : Int) (hl : l.length ≤ 256) (h0 : 0 ≤ fuel) (h1 : fuel ≤ 1048576) :
    (runF f l fuel).work ≤ ((runF f l fuel).steps + 1) * 65536 := by
  rw [runF_go hg (by omega)]
  have hF := goodFlat_F hg
  have e1 : ∀ fin, (outOf fin).steps = fin.steps ∧ (outOf fin).work = fin.s.work := fun fin => by unfold outOf; split <;> exact ⟨rfl, rfl⟩
  rw [(e1 _).1, (e1 _).2]
  have hi : f.main.toNat < f.funs.length := by have := hF.m0; have := hF.m1; omega
  have he : funAt f f.main = f.funs[f.main.toNat] := by simp [funAt, List.getD_eq_getElem?_getD, hi]
  unfold finF
  rw [he]
  have := loop_work hF 65536 (fun i hi => hF.tcount hi) fuel.toNat _ hi (bindEnv f.funs[f.main.toNat].2.1 [inputV l]) 0 ⟨0, 0, []⟩
  simp only [Nat.zero_mul, Nat.add_zero, Nat.zero_add] at this
  exact this
end Go.Proofs.Ytimljadlfhccpaa
