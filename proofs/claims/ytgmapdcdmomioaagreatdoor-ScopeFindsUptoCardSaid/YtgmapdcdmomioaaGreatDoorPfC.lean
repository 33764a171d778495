/- A program that is not too large: its types are not. -/
import Derived.Test.YtgmapdcdmomioaaGreatDoorPfB
set_option linter.all false
set_option linter.all false
set_option autoImplicit false
set_option maxRecDepth 100000
namespace Go.Proofs.YtgmapdcdmomioaaGreatDoor.Pa
open Go Go.Proofs.YtgmapdcdmomioaaGreatDoor.Am
def SmTy (x : Dat) : Prop := ndTy (absTy x) ≤ 20000 ∧ dpTy (absTy x) ≤ 601
def SmCn (c : Dat) : Prop := ∀ t ∈ elsOf (fld c 1), SmTy t
def SmDc (d : Dat) : Prop := ∀ c ∈ elsOf (fld d 2), SmCn c
theorem all_step {xs : List Dat} {i : Nat} {P : Dat → Prop} (hi : i < xs.length) (h : ∀ j (hj : j < i), P (xs[j]'(by omega))) (hp : P xs[i]) : ∀ j (hj : j < i + 1), P (xs[j]'(by omega)) := fun j hj => by
  rcases Nat.lt_or_ge j i with q | q
  · exact h j q
  · have : j = i := by omega
    subst this
    exact hp
theorem all_done {xs : List Dat} {P : Dat → Prop} (h : ∀ j (hj : j < xs.length), P xs[j]) : ∀ x ∈ xs, P x := fun x hx => by
  obtain ⟨j, hj, rfl⟩ := List.mem_iff_getElem.1 hx
  exact h j hj
theorem largeDecls_all (x : Dat) (g : Glob) (hx : HasTy TT 23 x) (Qf : Out → Glob → Prop) (hT : Qf (.val (.d (.bool true))) g) (hF : (∀ d ∈ elsOf x, SmDc d) → Qf (.val (.d (.bool false))) g) : EvF TT 58 [x] g Qf := by
  have ex := hx.els undDecls
  have exl := ex.1.1
  refine w58 hx (Br_iff.2 ⟨fun _ => hT, fun _ => ?_⟩)
  refine loopUp (len := (elsOf x).length) (fun i => ∀ n : Int, 0 ≤ n → n ≤ 20000 → (hb : i ≤ (elsOf x).length) → (∀ j (hj : j < i), SmDc ((elsOf x)[j]'(by omega))) → L58_5 x n (i : Int) g Qf) ?_ ?_ 0 (Nat.zero_le _) 0 (by omega) (by omega) (Nat.zero_le _) (fun j hj => by omega)
  · intro n n0 n1 hb hd
    refine w58_5 ?_
    rw [Br_ge]
    exact hF (all_done hd)
  · intro i hi ih n n0 n1 hb hd
    refine w58_5 ?_
    rw [Br_lt hi]
    refine ⟨inB hi, Br_iff.2 ⟨fun _ => hT, fun _ => ⟨inB hi, Br_iff.2 ⟨fun _ => hT, fun _ => ?_⟩⟩⟩⟩
    obtain ⟨s1, a1, b1, p1, e1, hs1, ta1, tb1⟩ := decl_ty (ex.2 _ (List.getElem_mem hi))
    have hf : fld (getE (elsOf x) (i : Int)) 2 = b1 := by rw [getE_nat hi, e1]; rfl
    have hf' : fld (elsOf x)[i] 2 = b1 := by rw [e1]; rfl
    have eb := tb1.els undCons
    have ebl := eb.1.1
    refine loopUp (len := (elsOf b1).length) (fun j => ∀ n : Int, 0 ≤ n → n ≤ 20000 → (hb : j ≤ (elsOf b1).length) → (∀ q (hq : q < j), SmCn ((elsOf b1)[q]'(by omega))) → L58_10 x n (i : Int) (j : Int) g Qf) ?_ ?_ 0 (Nat.zero_le _) n n0 n1 (Nat.zero_le _) (fun j hj => by omega)
    · intro n n0 n1 hb hc
      refine w58_10 ⟨inB hi, ?_⟩
      rw [hf, Br_ge, wrap_nat (by omega)]
      exact ih n n0 n1 (by omega) (all_step hi hd (by unfold SmDc; rw [hf']; exact all_done hc))
    · intro j hj ihj n n0 n1 hb hc
      refine w58_10 ⟨inB hi, ?_⟩
      rw [hf, Br_lt hj]
      refine ⟨inB hi, inB hj, Br_iff.2 ⟨fun _ => hT, fun _ => ?_⟩⟩
      obtain ⟨t1, f1, d1, ht1, tf1⟩ := con_ty (eb.2 _ (List.getElem_mem hj))
      have hf2 : fld (getE (elsOf b1) (j : Int)) 1 = f1 := by rw [getE_nat hj, d1]; rfl
      have hf2' : fld (elsOf b1)[j] 1 = f1 := by rw [d1]; rfl
      have ef := tf1.els undTypes
      have efl := ef.1.1
      refine loopUp (len := (elsOf f1).length) (fun q => ∀ n : Int, -1 ≤ n → n ≤ 20000 → (hb : q ≤ (elsOf f1).length) → (0 ≤ n → ∀ u (hu : u < q), SmTy ((elsOf f1)[u]'(by omega))) → L58_15 x n (i : Int) (j : Int) (q : Int) g Qf) ?_ ?_ 0 (Nat.zero_le _) n (by omega) n1 (Nat.zero_le _) (fun _ j hj => by omega)
      · intro n n0 n1 hb hu
        refine w58_15 ⟨inB hi, ?_⟩
        rw [hf, hf2, Br_ge]
        refine ⟨inB hj, Br_iff.2 ⟨fun _ => hT, fun q => ?_⟩⟩
        have q := of_decide_eq_false q
        rw [wrap_nat (by omega)]
        exact ihj n (by omega) n1 (by omega) (all_step hj hc (by unfold SmCn; rw [hf2']; exact all_done (hu (by omega))))
      · intro q hq ihq n n0 n1 hb hu
        refine w58_15 ⟨inB hi, ?_⟩
        rw [hf, hf2, Br_lt hq]
        refine ⟨inB hj, Br_iff.2 ⟨fun p => ⟨inB hi, inB hj, inB hq, ?_⟩, fun p => Br_iff.2 ⟨fun _ => hT, fun p' => ?_⟩⟩⟩
        · rw [getE_nat hq]
          have p := of_decide_eq_true p
          refine weighType_all _ _ g _ _ (Nat.lt_succ_self _) (ef.2 _ (List.getElem_mem hq)) (by omega) (by omega) p n1 _ fun r r0 r1 hr => ⟨_, rfl, ?_⟩
          rw [wrap_nat (by omega)]
          exact ihq r r0 r1 (by omega) fun hr0 => all_step hq (hu p) ⟨by have := (hr hr0).1; omega, by have := (hr hr0).2; omega⟩
        · have p := of_decide_eq_false p
          have p' := of_decide_eq_false p'
          omega
theorem large_all (x : Dat) (g : Glob) (hx : HasTy TT 29 x) (Qf : Out → Glob → Prop) (hT : Qf (.val (.d (.bool true))) g)
    (hF : (∀ d ∈ elsOf (fld x 0), SmDc d) → szEx (absPg x).e ≤ 20000 → dpEx (absPg x).e ≤ 601 → Qf (.val (.d (.bool false))) g) : EvF TT 21 [x] g Qf := by
  refine w21 hx ?_
  obtain ⟨d1, k1, s1, r1, n1, a1, b1, p1, rfl, hd1, he1⟩ := prog_ty hx
  refine largeDecls_all d1 g hd1 _ ⟨_, rfl, Br_iff.2 ⟨fun _ => hT, fun h => (by cases h)⟩⟩ fun hs => ⟨_, rfl, Br_iff.2 ⟨fun h => (by cases h), fun _ => ?_⟩⟩
  refine w37 he1 (weighExpr_all _ _ g _ _ (Nat.lt_succ_self _) he1 (by omega) (by omega) (by omega) (by omega) _ fun r l0 l1 hr => ⟨_, rfl, ⟨_, rfl, ?_⟩⟩)
  by_cases h : r < 0
  · rw [decide_eq_true h]; exact hT
  · rw [decide_eq_false h]
    have := hr (by omega)
    refine hF hs ?_ ?_
    · show szEx (absEx (.agg [.int .i64 k1, .str s1, .str r1, .int .i64 n1, a1, b1, .int .i64 p1])) ≤ 20000
      omega
    · show dpEx (absEx (.agg [.int .i64 k1, .str s1, .str r1, .int .i64 n1, a1, b1, .int .i64 p1])) ≤ 601
      omega
end Go.Proofs.YtgmapdcdmomioaaGreatDoor.Pa
