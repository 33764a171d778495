/- Which trees may be: the program's questions. Operations' signs, functions over slices. -/
import Derived.Test.YtgmapdcdmomioaaGreatDoorPwH
import Derived.Test.YtgmapdcdmomioaaGreatDoorPfH
import Derived.Test.YtgmapdcdmomioaaGreatDoorPeA
set_option linter.all false
set_option linter.all false
set_option autoImplicit false
set_option maxRecDepth 100000
namespace Go.Proofs.YtgmapdcdmomioaaGreatDoor.Pa
open Go Go.Proofs.YtgmapdcdmomioaaGreatDoor.Am
/-! ### Signs of operations -/
def opL : List Str := [[43], [45], [42], [47], [37], [60], [61, 61]]
def ixF (s : Str) : List Str → Int → Int
  | [], _ => 0
  | x :: l, i => bif x == s then i else ixF s l (i + 1)
def opN (s : Str) : Int := ixF s opL 1
section
variable {s : Str} {g : Glob} {Qf : Out → Glob → Prop}
theorem qint {a b : Int} (h : Qf (.val (.d (.int .i64 a))) g) (e : a = b) : Qf (.val (.d (.int .i64 b))) g := e ▸ h
theorem intsOp_ok (hs : s.length ≤ 2 ^ 40) (hQ : Qf (.val (.d (.int .i64 (opN s)))) g) : EvF TT 196 [.str s] g Qf := by
  refine w196 hs (w220 ⟨_, ?_, rfl, ?_⟩)
  · refine struct_of (tys := [9, 9, 9, 9, 9, 9, 9, 9]) (by kernel_rfl) (by kernel_rfl) (by kernel_rfl) ⟨?_, ?_, ?_, ?_, ?_, ?_, ?_, ?_, trivial⟩ <;> exact ty_str (by simp)
  · simp only [opN, opL, ixF] at hQ
    refine w196_2 ?_
    refine Br_iff.2 ⟨fun _ => ?_, fun h => by simp at h⟩
    simp only [show ((0 : Int) == 7) = false from rfl, show ((0 : Int) == 6) = false from rfl, show ((0 : Int) == 5) = false from rfl, show ((0 : Int) == 4) = false from rfl, show ((0 : Int) == 3) = false from rfl, show ((0 : Int) == 2) = false from rfl, show ((0 : Int) == 1) = false from rfl, show ((0 : Int) == 0) = true from rfl, Br_true, Br_false, show decide ((0 : Int) < 0) = false from rfl, show IntKind.i64.wrap (0 + 1) = 1 from rfl]
    have step : ∀ {X : Prop} {b : Bool}, X → Br b X X := fun h => by cases ‹Bool› <;> exact h
    refine step ?_
    refine w196_2 (Br_iff.2 ⟨fun _ => ?_, fun h => by simp at h⟩)
    simp only [show ((1 : Int) == 7) = false from rfl, show ((1 : Int) == 6) = false from rfl, show ((1 : Int) == 5) = false from rfl, show ((1 : Int) == 4) = false from rfl, show ((1 : Int) == 3) = false from rfl, show ((1 : Int) == 2) = false from rfl, show ((1 : Int) == 1) = true from rfl, show ((1 : Int) == 0) = false from rfl, Br_true, Br_false, show decide ((0 : Int) < 1) = true from rfl, show IntKind.i64.wrap (1 + 1) = 2 from rfl]
    refine Br_iff.2 ⟨fun q => ?_, fun q => ?_⟩
    · rw [show (([43] : Str) == s) = true from q] at hQ
      exact hQ
    rw [show (([43] : Str) == s) = false from q, cond_false] at hQ
    refine w196_2 (Br_iff.2 ⟨fun _ => ?_, fun h => by simp at h⟩)
    simp only [show ((2 : Int) == 7) = false from rfl, show ((2 : Int) == 6) = false from rfl, show ((2 : Int) == 5) = false from rfl, show ((2 : Int) == 4) = false from rfl, show ((2 : Int) == 3) = false from rfl, show ((2 : Int) == 2) = true from rfl, show ((2 : Int) == 1) = false from rfl, show ((2 : Int) == 0) = false from rfl, Br_true, Br_false, show decide ((0 : Int) < 2) = true from rfl, show IntKind.i64.wrap (2 + 1) = 3 from rfl]
    refine Br_iff.2 ⟨fun q => ?_, fun q => ?_⟩
    · rw [show (([45] : Str) == s) = true from q] at hQ
      exact hQ
    rw [show (([45] : Str) == s) = false from q, cond_false] at hQ
    refine w196_2 (Br_iff.2 ⟨fun _ => ?_, fun h => by simp at h⟩)
    simp only [show ((3 : Int) == 7) = false from rfl, show ((3 : Int) == 6) = false from rfl, show ((3 : Int) == 5) = false from rfl, show ((3 : Int) == 4) = false from rfl, show ((3 : Int) == 3) = true from rfl, show ((3 : Int) == 2) = false from rfl, show ((3 : Int) == 1) = false from rfl, show ((3 : Int) == 0) = false from rfl, Br_true, Br_false, show decide ((0 : Int) < 3) = true from rfl, show IntKind.i64.wrap (3 + 1) = 4 from rfl]
    refine Br_iff.2 ⟨fun q => ?_, fun q => ?_⟩
    · rw [show (([42] : Str) == s) = true from q] at hQ
      exact hQ
    rw [show (([42] : Str) == s) = false from q, cond_false] at hQ
    refine w196_2 (Br_iff.2 ⟨fun _ => ?_, fun h => by simp at h⟩)
    simp only [show ((4 : Int) == 7) = false from rfl, show ((4 : Int) == 6) = false from rfl, show ((4 : Int) == 5) = false from rfl, show ((4 : Int) == 4) = true from rfl, show ((4 : Int) == 3) = false from rfl, show ((4 : Int) == 2) = false from rfl, show ((4 : Int) == 1) = false from rfl, show ((4 : Int) == 0) = false from rfl, Br_true, Br_false, show decide ((0 : Int) < 4) = true from rfl, show IntKind.i64.wrap (4 + 1) = 5 from rfl]
    refine Br_iff.2 ⟨fun q => ?_, fun q => ?_⟩
    · rw [show (([47] : Str) == s) = true from q] at hQ
      exact hQ
    rw [show (([47] : Str) == s) = false from q, cond_false] at hQ
    refine w196_2 (Br_iff.2 ⟨fun _ => ?_, fun h => by simp at h⟩)
    simp only [show ((5 : Int) == 7) = false from rfl, show ((5 : Int) == 6) = false from rfl, show ((5 : Int) == 5) = true from rfl, show ((5 : Int) == 4) = false from rfl, show ((5 : Int) == 3) = false from rfl, show ((5 : Int) == 2) = false from rfl, show ((5 : Int) == 1) = false from rfl, show ((5 : Int) == 0) = false from rfl, Br_true, Br_false, show decide ((0 : Int) < 5) = true from rfl, show IntKind.i64.wrap (5 + 1) = 6 from rfl]
    refine Br_iff.2 ⟨fun q => ?_, fun q => ?_⟩
    · rw [show (([37] : Str) == s) = true from q] at hQ
      exact hQ
    rw [show (([37] : Str) == s) = false from q, cond_false] at hQ
    refine w196_2 (Br_iff.2 ⟨fun _ => ?_, fun h => by simp at h⟩)
    simp only [show ((6 : Int) == 7) = false from rfl, show ((6 : Int) == 6) = true from rfl, show ((6 : Int) == 5) = false from rfl, show ((6 : Int) == 4) = false from rfl, show ((6 : Int) == 3) = false from rfl, show ((6 : Int) == 2) = false from rfl, show ((6 : Int) == 1) = false from rfl, show ((6 : Int) == 0) = false from rfl, Br_true, Br_false, show decide ((0 : Int) < 6) = true from rfl, show IntKind.i64.wrap (6 + 1) = 7 from rfl]
    refine Br_iff.2 ⟨fun q => ?_, fun q => ?_⟩
    · rw [show (([60] : Str) == s) = true from q] at hQ
      exact hQ
    rw [show (([60] : Str) == s) = false from q, cond_false] at hQ
    refine w196_2 (Br_iff.2 ⟨fun _ => ?_, fun h => by simp at h⟩)
    simp only [show ((7 : Int) == 7) = true from rfl, show ((7 : Int) == 6) = false from rfl, show ((7 : Int) == 5) = false from rfl, show ((7 : Int) == 4) = false from rfl, show ((7 : Int) == 3) = false from rfl, show ((7 : Int) == 2) = false from rfl, show ((7 : Int) == 1) = false from rfl, show ((7 : Int) == 0) = false from rfl, Br_true, Br_false, show decide ((0 : Int) < 7) = true from rfl, show IntKind.i64.wrap (7 + 1) = 8 from rfl]
    refine Br_iff.2 ⟨fun q => ?_, fun q => ?_⟩
    · rw [show (([61, 61] : Str) == s) = true from q] at hQ
      exact hQ
    rw [show (([61, 61] : Str) == s) = false from q, cond_false] at hQ
    refine w196_2 (Br_iff.2 ⟨fun h => by simp at h, fun _ => hQ⟩)
theorem r10words_ok (hQ : ∀ x, x = .sl 1 (([] :: opL).map .str) → ∀ v, RetV v x → Qf (.val v) g) : EvF TT 223 [] g Qf := w223 (hQ _ rfl _ rfl)
theorem r10Op_ok (hs : s.length ≤ 2 ^ 40) (hQ : Qf (.val (.d (.int .i64 (opN s)))) g) : EvF TT 203 [.str s] g Qf := by
  refine w203 hs ?_
  have hty : HasTy TT 61 (.sl 1 (([] :: opL).map .str)) := ty_strs (l := [] :: opL) (by decide) (by decide) (by decide)
  have go : ∀ (l pre : List Str), [] :: opL = pre ++ l → 1 ≤ pre.length → Qf (.val (.d (.int .i64 (ixF s l (pre.length : Int))))) g → L203_2 s (pre.length : Int) g Qf := by
    intro l
    induction l with
    | nil =>
      intro pre hl h1 hQ
      refine w203_2 (w223 ⟨_, hty, rfl, ?_⟩)
      have : pre.length = 8 := by rw [List.append_nil] at hl; rw [← hl]; rfl
      rw [this]
      exact hQ
    | cons x l ih =>
      intro pre hl h1 hQ
      have hlen : pre.length + (l.length + 1) = 8 := by
        have := congrArg List.length hl
        rw [List.length_append, List.length_cons] at this
        exact this.symm
      refine w203_2 (w223 ⟨_, hty, rfl, ?_⟩)
      have hg : getE (elsOf (.sl 1 (([] :: opL).map .str))) (pre.length : Int) = .str x := by
        simp only [elsOf, getE, Int.toNat_natCast, hl, List.map_append, List.map_cons]
        have := nth_app (pre := pre.map Dat.str) (x := .str x) (l := l.map .str)
        rw [List.length_map] at this
        exact this
      rw [show (elsOf (.sl 1 (([] :: opL).map .str))).length = 8 from rfl, Br_lt (show pre.length < 8 by omega)]
      refine w223 ⟨_, hty, rfl, inB (show pre.length < 8 by omega), ?_⟩
      rw [hg]
      simp only [ixF] at hQ
      show Br (x == s) _ _
      cases hq : (x == s) with
      | true => rw [hq] at hQ; exact hQ
      | false =>
        rw [hq, cond_false] at hQ
        rw [Br_false, wrap_nat (by omega)]
        have := ih (pre ++ [x]) (by rw [hl, List.append_assoc]; rfl) (by rw [List.length_append]; omega)
        rw [List.length_append] at this
        exact this hQ
  exact go opL [[]] rfl (by simp) hQ
theorem containsPats_ok {f : FuncId} {c : List Dat} {p : Dat → Bool} {x : Dat} (hx : HasTy TT 25 x) (hf : ∀ y ∈ elsOf x, ∀ Q : Out → Glob → Prop, Q (.val (.d (.bool (p y)))) g → EvF TT f (y :: c) g Q) (hQ : Qf (.val (.d (.bool ((elsOf x).any p)))) g) : EvF TT 130 [x, .clo f c] g Qf := by
  have exl := len_le undPats hx
  refine w130 hx (w197 hx ?_)
  refine loopUp (len := (elsOf x).length) (fun i => Qf (.val (.d (.bool (((elsOf x).drop i).any p)))) g → L197_2 x f c ((elsOf x).length : Int) (i : Int) g _) ?_ ?_ 0 (Nat.zero_le _) hQ
  · intro hQ
    refine w197_2 ?_
    rw [Br_ge]
    rw [List.drop_length] at hQ
    exact ⟨_, rfl, hQ⟩
  · intro i hi ih hQ
    refine w197_2 ?_
    rw [Br_lt hi, getE_nat hi]
    rw [List.drop_eq_getElem_cons hi, List.any_cons] at hQ
    refine ⟨inB hi, hf _ (List.getElem_mem hi) _ ⟨_, rfl, Br_iff.2 ⟨fun q => ?_, fun q => ?_⟩⟩⟩
    · rw [q] at hQ
      refine ⟨_, rfl, qcast hQ ?_⟩
      rw [Bool.true_or, decide_eq_true (by omega)]
    · rw [q] at hQ
      rw [wrap_nat (by omega)]
      exact ih hQ
theorem containsExprs_ok {f : FuncId} {c : List Dat} {p : Dat → Bool} {x : Dat} (hx : HasTy TT 24 x) (hf : ∀ y ∈ elsOf x, ∀ Q : Out → Glob → Prop, Q (.val (.d (.bool (p y)))) g → EvF TT f (y :: c) g Q) (hQ : Qf (.val (.d (.bool ((elsOf x).any p)))) g) : EvF TT 133 [x, .clo f c] g Qf := by
  have exl := len_le undExprs hx
  refine w133 hx (w199 hx ?_)
  refine loopUp (len := (elsOf x).length) (fun i => Qf (.val (.d (.bool (((elsOf x).drop i).any p)))) g → L199_2 x f c ((elsOf x).length : Int) (i : Int) g _) ?_ ?_ 0 (Nat.zero_le _) hQ
  · intro hQ
    refine w199_2 ?_
    rw [Br_ge]
    rw [List.drop_length] at hQ
    exact ⟨_, rfl, hQ⟩
  · intro i hi ih hQ
    refine w199_2 ?_
    rw [Br_lt hi, getE_nat hi]
    rw [List.drop_eq_getElem_cons hi, List.any_cons] at hQ
    refine ⟨inB hi, hf _ (List.getElem_mem hi) _ ⟨_, rfl, Br_iff.2 ⟨fun q => ?_, fun q => ?_⟩⟩⟩
    · rw [q] at hQ
      refine ⟨_, rfl, qcast hQ ?_⟩
      rw [Bool.true_or, decide_eq_true (by omega)]
    · rw [q] at hQ
      rw [wrap_nat (by omega)]
      exact ih hQ
theorem containsTypes_ok {f : FuncId} {c : List Dat} {p : Dat → Bool} {x : Dat} (hx : HasTy TT 89 x) (hf : ∀ y ∈ elsOf x, ∀ Q : Out → Glob → Prop, Q (.val (.d (.bool (p y)))) g → EvF TT f (y :: c) g Q) (hQ : Qf (.val (.d (.bool ((elsOf x).any p)))) g) : EvF TT 137 [x, .clo f c] g Qf := by
  have exl := len_le undTypes hx
  refine w137 hx (w201 hx ?_)
  refine loopUp (len := (elsOf x).length) (fun i => Qf (.val (.d (.bool (((elsOf x).drop i).any p)))) g → L201_2 x f c ((elsOf x).length : Int) (i : Int) g _) ?_ ?_ 0 (Nat.zero_le _) hQ
  · intro hQ
    refine w201_2 ?_
    rw [Br_ge]
    rw [List.drop_length] at hQ
    exact ⟨_, rfl, hQ⟩
  · intro i hi ih hQ
    refine w201_2 ?_
    rw [Br_lt hi, getE_nat hi]
    rw [List.drop_eq_getElem_cons hi, List.any_cons] at hQ
    refine ⟨inB hi, hf _ (List.getElem_mem hi) _ ⟨_, rfl, Br_iff.2 ⟨fun q => ?_, fun q => ?_⟩⟩⟩
    · rw [q] at hQ
      refine ⟨_, rfl, qcast hQ ?_⟩
      rw [Bool.true_or, decide_eq_true (by omega)]
    · rw [q] at hQ
      rw [wrap_nat (by omega)]
      exact ih hQ
theorem containsDecls_ok {f : FuncId} {c : List Dat} {p : Dat → Bool} {x : Dat} (hx : HasTy TT 23 x) (hf : ∀ y ∈ elsOf x, ∀ Q : Out → Glob → Prop, Q (.val (.d (.bool (p y)))) g → EvF TT f (y :: c) g Q) (hQ : Qf (.val (.d (.bool ((elsOf x).any p)))) g) : EvF TT 68 [x, .clo f c] g Qf := by
  have exl := len_le undDecls hx
  refine w68 hx (w135 hx ?_)
  refine loopUp (len := (elsOf x).length) (fun i => Qf (.val (.d (.bool (((elsOf x).drop i).any p)))) g → L135_2 x f c ((elsOf x).length : Int) (i : Int) g _) ?_ ?_ 0 (Nat.zero_le _) hQ
  · intro hQ
    refine w135_2 ?_
    rw [Br_ge]
    rw [List.drop_length] at hQ
    exact ⟨_, rfl, hQ⟩
  · intro i hi ih hQ
    refine w135_2 ?_
    rw [Br_lt hi, getE_nat hi]
    rw [List.drop_eq_getElem_cons hi, List.any_cons] at hQ
    refine ⟨inB hi, hf _ (List.getElem_mem hi) _ ⟨_, rfl, Br_iff.2 ⟨fun q => ?_, fun q => ?_⟩⟩⟩
    · rw [q] at hQ
      refine ⟨_, rfl, qcast hQ ?_⟩
      rw [Bool.true_or, decide_eq_true (by omega)]
    · rw [q] at hQ
      rw [wrap_nat (by omega)]
      exact ih hQ
end
end Go.Proofs.YtgmapdcdmomioaaGreatDoor.Pa
