/- A word of a kind, as the program asks it, is what the document says. What functions of the program do, printed by wip/tools/sx/sx.py. Which trees may be: the program's questions. Operations' signs, functions over slices. Which types and patterns may be: the program's tests, the document's. Which expressions may be: the program's tests, the document's. -/
import Derived.Test.YtgmapdcdmomioaaGreatDoorRG
import Derived.Test.YtgmapdcdmomioaaGreatDoorRE
set_option linter.all false
set_option autoImplicit false
set_option maxRecDepth 100000
namespace Go.Proofs.YtgmapdcdmomioaaGreatDoor.Pa
open Go Go.Proofs.YtgmapdcdmomioaaGreatDoor.Am
theorem runN_all (p : Int → Bool) : ∀ r : Str, runN p r = r.length ↔ (r.all fun c => p c.toNat) = true
  | [] => by simp [runN]
  | c :: r => by
    have ih := runN_all p r
    have := runN_le p r
    unfold runN at *
    rw [List.takeWhile_cons, List.all_cons]
    cases p c.toNat
    · simp
    · simp only [if_true, List.length_cons, Bool.true_and, ← ih]
      omega
theorem wordF_kind (k : Int) (hk : k ≠ 1) (s : Str) : (wF k s).1.1 = 0 ∨ (wF k s).1.1 = k := by
  unfold wF
  split
  · exact .inl rfl
  · refine .inr ?_
    show (if (k == 1 && keyB s) = true then (5 : Int) else k) = k
    rw [show (k == 1) = false by simpa using hk]
    rfl
theorem numF_kind (s : Str) : (numF s).1.1 = 0 ∨ (numF s).1.1 = 4 := by
  unfold numF
  split
  · exact .inr rfl
  · exact .inl rfl
theorem tokF_kind (c : UInt8) (r : Str) : (smB c.toNat = true ∧ tokF (c :: r) = ((wF 1 ((c :: r).take (1 + runN ptB r))).1, 1 + runN ptB r, (wF 1 ((c :: r).take (1 + runN ptB r))).2)) ∨
    (smB c.toNat = false ∧ cpB c.toNat = true ∧ tokF (c :: r) = ((wF 2 ((c :: r).take (1 + runN ptB r))).1, 1 + runN ptB r, (wF 2 ((c :: r).take (1 + runN ptB r))).2)) ∨
    (smB c.toNat = false ∧ cpB c.toNat = false ∧ ((tokF (c :: r)).1.1 = 0 ∨ (tokF (c :: r)).1.1 = 3 ∨ (tokF (c :: r)).1.1 = 4 ∨ (tokF (c :: r)).1.1 = 6)) := by
  cases h1 : smB c.toNat with
  | true => exact .inl ⟨rfl, by simp only [tokF]; rw [if_pos h1]⟩
  | false =>
    cases h2 : cpB c.toNat with
    | true => exact .inr (.inl ⟨rfl, rfl, by simp only [tokF]; rw [if_neg (by simp [h1]), if_pos h2]⟩)
    | false =>
      refine .inr (.inr ⟨rfl, rfl, ?_⟩)
      simp only [tokF]
      generalize (c.toNat == 39 && _) = b3
      rw [if_neg (by simp [h1]), if_neg (by simp [h2])]
      split
      · rcases wordF_kind 3 (by decide) (r.take (runN ptB r)) with h | h
        · exact .inl h
        · exact .inr (.inl h)
      · split
        · rcases numF_kind ((c :: r).take (1 + runN dgB r)) with h | h
          · exact .inl h
          · exact .inr (.inr (.inl h))
        · split
          · exact .inr (.inr (.inr rfl))
          · exact .inl rfl
theorem decF {p : Prop} [Decidable p] (h : ¬ p) : decide p = false := decide_eq_false h
theorem speltB_low (s : Str) : spe 1 s = wLow s := by
  cases s with
  | nil => rfl
  | cons c r =>
    unfold spe
    rw [show speltS 1 (c :: r) = c :: r from rfl]
    simp only [reduceCtorEq, false_or, List.length_cons]
    unfold wLow wordB
    simp only [cond_true]
    split
    · rename_i h
      rw [decF (p := r.length < 32) (by omega)]
      rfl
    · rename_i h
      have hm := runN_all ptB r
      rcases tokF_kind c r with ⟨h1, h2⟩ | ⟨h1, h2, h3⟩ | ⟨h1, h2, h3⟩
      · rw [h2, h1]
        cases ha : r.all (fun c => ptB c.toNat) with
        | false =>
          have hne : ¬ runN ptB r = r.length := fun e => by rw [hm.1 e] at ha; cases ha
          simp only [Bool.and_false, Bool.false_and]
          refine decF fun hh => hne ?_
          have := hh.2.1
          omega
        | true =>
          have he := hm.2 ha
          rw [he]
          have ht : (c :: r).take (1 + r.length) = c :: r := by rw [List.take_of_length_le]; simp [Nat.add_comm]
          rw [ht]
          unfold wF
          by_cases hl : r.length < 32
          · rw [decide_eq_true hl, if_neg (by simp only [List.length_cons]; omega)]
            cases hk : keyB (c :: r)
            · simp; omega
            · simp
          · rw [decF hl, if_pos (by simp only [List.length_cons]; omega)]
            simp
      · rw [h1]
        simp only [Bool.false_and, Bool.and_false]
        refine decF fun hh => ?_
        have e := congrArg (·.1) hh.2.2
        rw [h3] at e
        rcases wordF_kind 2 (by decide) ((c :: r).take (1 + runN ptB r)) with h | h
        · have e : (wF 2 ((c :: r).take (1 + runN ptB r))).1.1 = 1 := e
          omega
        · have e : (wF 2 ((c :: r).take (1 + runN ptB r))).1.1 = 1 := e
          omega
      · rw [h1]
        simp only [Bool.false_and, Bool.and_false]
        refine decF fun hh => ?_
        have e : (tokF (c :: r)).1.1 = 1 := congrArg (·.1) hh.2.2
        omega
theorem speltB_up (s : Str) : spe 2 s = wUp s := by
  cases s with
  | nil => rfl
  | cons c r =>
    unfold spe
    rw [show speltS 2 (c :: r) = c :: r from rfl]
    simp only [reduceCtorEq, false_or, List.length_cons]
    unfold wUp wordB
    simp only [cond_false]
    split
    · rename_i h
      rw [decF (p := r.length < 32) (by omega)]
      rfl
    · rename_i h
      have hm := runN_all ptB r
      rcases tokF_kind c r with ⟨h1, h2⟩ | ⟨h1, h2, h3⟩ | ⟨h1, h2, h3⟩
      · have hc : cpB c.toNat = false := by
          simp only [smB, Bool.and_eq_true, decide_eq_true_eq] at h1
          simp only [cpB]
          rw [decF (p := (c.toNat : Int) ≤ 90) (by omega), Bool.and_false]
        rw [h2, hc]
        simp only [Bool.false_and, Bool.and_false]
        refine decF fun hh => ?_
        have e := congrArg (·.1) hh.2.2
        unfold wF at e
        simp only at e
        split at e
        · simp at e
        · split at e <;> simp at e
      · rw [h3, h2]
        cases ha : r.all (fun c => ptB c.toNat) with
        | false =>
          have hne : ¬ runN ptB r = r.length := fun e => by rw [hm.1 e] at ha; cases ha
          simp only [Bool.and_false, Bool.false_and]
          refine decF fun hh => hne ?_
          have := hh.2.1
          omega
        | true =>
          have he := hm.2 ha
          rw [he]
          have ht : (c :: r).take (1 + r.length) = c :: r := by rw [List.take_of_length_le]; simp [Nat.add_comm]
          rw [ht]
          unfold wF
          by_cases hl : r.length < 32
          · rw [decide_eq_true hl, if_neg (by simp only [List.length_cons]; omega)]
            simp
            omega
          · rw [decF hl, if_pos (by simp only [List.length_cons]; omega)]
            simp
      · rw [h2]
        simp only [Bool.false_and, Bool.and_false]
        refine decF fun hh => ?_
        have e : (tokF (c :: r)).1.1 = 2 := congrArg (·.1) hh.2.2
        omega
theorem signF_quote (s : Str) : signF (39 :: s) signL = none := by
  have key : ∀ l : List Str, (∀ x ∈ l, ∃ d t, x = d :: t ∧ d ≠ 39) → signF (39 :: s) l = none := by
    intro l
    induction l with
    | nil => intro _; rfl
    | cons x l ih =>
      intro h
      obtain ⟨d, t, rfl, hd⟩ := h x List.mem_cons_self
      unfold signF
      rw [if_neg ?_]
      · exact ih fun y hy => h y (List.mem_cons_of_mem _ hy)
      · rw [List.isPrefixOf_iff_prefix]
        intro hp
        rw [List.cons_prefix_cons] at hp
        exact hd hp.1
  refine key signL fun x hx => ?_
  simp only [signL, List.mem_cons, List.not_mem_nil, or_false] at hx
  rcases hx with rfl | rfl | rfl | rfl | rfl | rfl | rfl | rfl | rfl | rfl | rfl | rfl | rfl | rfl <;> exact ⟨_, _, rfl, by decide⟩
theorem speltB_var (s : Str) : spe 3 s = wVar s := by
  unfold spe
  rw [show speltS 3 s = 39 :: s from rfl]
  simp only [reduceCtorEq, false_or, List.length_cons]
  unfold wVar
  have e1 : smB ((39 : UInt8).toNat : Int) = false := by decide
  have e2 : cpB ((39 : UInt8).toNat : Int) = false := by decide
  have e3 : ((39 : UInt8).toNat == 39) = true := by decide
  have e4 : ((39 : UInt8).toNat == 126 || dgB ((39 : UInt8).toNat : Int)) = false := by decide
  cases s with
  | nil => decide
  | cons c r =>
    simp only [List.length_cons, wordB, cond_true]
    split
    · rename_i h
      rw [decF (p := r.length < 32) (by omega)]
      rfl
    · rename_i h
      have hb : ptB c.toNat = true → runN ptB (c :: r) = 1 + runN ptB r := fun hp => by
        have := runN_drop ptB (s := c :: r) (i := 0) (by simp)
        simp only [List.drop_zero, List.getElem_cons_zero, List.drop_succ_cons] at this
        rw [hp] at this
        exact this
      simp only [tokF]
      rw [e1, e2, e3, e4, signF_quote]
      simp only [Bool.false_eq_true, if_false, Bool.true_and]
      cases hs : smB c.toNat with
      | false => simp
      | true =>
        have hp : ptB c.toNat = true := by simp [ptB, hs]
        rw [hb hp]
        have hm := runN_all ptB r
        rw [if_pos (by simp; omega)]
        cases ha : r.all (fun c => ptB c.toNat) with
        | false =>
          have hne : ¬ runN ptB r = r.length := fun e => by rw [hm.1 e] at ha; cases ha
          simp only [Bool.and_false]
          refine decF fun hh => hne ?_
          have := hh.2.1
          omega
        | true =>
          have he := hm.2 ha
          rw [he]
          have ht : (c :: r).take (1 + r.length) = c :: r := by rw [List.take_of_length_le]; simp [Nat.add_comm]
          rw [ht]
          unfold wF
          by_cases hl : r.length < 32
          · rw [decide_eq_true hl, if_neg (by simp only [List.length_cons]; omega)]
            simp
            omega
          · rw [decF hl, if_pos (by simp only [List.length_cons]; omega)]
            simp
section
variable {s : Str} {g : Glob} {Qf : OGP}
theorem wL (hs : s.length ≤ 2 ^ 40) (hQ : Qf (.val (.d (.bool (wLow s)))) g) : EvF TT 136 [.int .i64 1, .str s] g Qf := parseword_ok (by decide) hs (fun h => absurd h (by decide)) (qc hQ (speltB_low s).symm)
theorem wordUp_ok (hs : s.length ≤ 2 ^ 40) (hQ : Qf (.val (.d (.bool (wUp s)))) g) : EvF TT 136 [.int .i64 2, .str s] g Qf := parseword_ok (by decide) hs (fun h => absurd h (by decide)) (qc hQ (speltB_up s).symm)
theorem wordVar_ok (hs : s.length < 2 ^ 40) (hQ : Qf (.val (.d (.bool (wVar s)))) g) : EvF TT 136 [.int .i64 3, .str s] g Qf := parseword_ok (by decide) (by omega) (fun _ => hs) (qc hQ (speltB_var s).symm)
end
end Go.Proofs.YtgmapdcdmomioaaGreatDoor.Pa
namespace Go.Proofs.YtgmapdcdmomioaaGreatDoor.Pa
open Go Go.Proofs.YtgmapdcdmomioaaGreatDoor.Am
def L197_2 (x0 : Dat) (f1 : FuncId) (c1 : List Dat) (n7 : Int) (n8 : Int) (g : Glob) (Qf : OGP) : Prop := CP TT Tryz.f197 [1, 0, 1, 0] Qf (mkC TT 197 Tryz.f197 2 [(0, .v 25 (x0)), (1, .v 155 (.clo f1 c1)), (7, .v 3 (.int .i64 n7)), (8, .v 3 (.int .i64 n8))] [] g)
def lo197 : List CuI := [⟨2, [(0, .keep), (1, .keep), (7, .keep), (8, .keep)], []⟩]
theorem w197 {x0 : Dat} {f1 : FuncId} {c1 : List Dat} {g : Glob} {Qf : OGP} (h0 : Ha TT 25 x0)
    (h : L197_2 x0 f1 c1 (↑(elO x0).length : Int) 0 g Qf) :
    EvF TT 197 [x0, .clo f1 c1] g Qf :=
  su (rk := rk) (fn := Tryz.f197) (loops := lo197) (joins := []) (n := 100000) (args := [(25, x0), (155, .clo f1 c1)]) rfl rfl rfl rfl ⟨h0, tyClo rfl, trivial⟩ (by kernel_rfl) h
theorem w197_2 {x0 : Dat} {f1 : FuncId} {c1 : List Dat} {n7 : Int} {n8 : Int} {g : Glob} {Qf : OGP} 
    (h : Br (decide (n8 < n7)) (InB n8 (elO x0).length ∧ EvF TT f1 (gtE (elO x0) n8 :: c1) g (KQ Qf fun v g' => ∃ b, v = .d (.bool b) ∧ Br b (Qf (.val (.d (.int .i64 n8))) g') (L197_2 x0 f1 c1 n7 (IntKind.i64.wrap (n8 + 1)) g' Qf))) (Qf (.val (.d (.int .i64 (-1)))) g)) :
    L197_2 x0 f1 c1 n7 n8 g Qf := sxc (rk := rk) (loops := lo197) (joins := []) (n := 100000) (by kernel_rfl) h
def lo130 : List CuI := []
theorem w130 {x0 : Dat} {f1 : FuncId} {c1 : List Dat} {g : Glob} {Qf : OGP} (h0 : Ha TT 25 x0)
    (h : EvF TT 197 [x0, .clo f1 c1] g (KQ Qf fun v g' => ∃ n, v = .d (.int .i64 n) ∧ Qf (.val (.d (.bool (decide (0 ≤ n))))) g')) :
    EvF TT 130 [x0, .clo f1 c1] g Qf :=
  su (rk := rk) (fn := Tryz.f130) (loops := lo130) (joins := []) (n := 100000) (args := [(25, x0), (155, .clo f1 c1)]) rfl rfl rfl rfl ⟨h0, tyClo rfl, trivial⟩ (by kernel_rfl) h
def L199_2 (x0 : Dat) (f1 : FuncId) (c1 : List Dat) (n7 : Int) (n8 : Int) (g : Glob) (Qf : OGP) : Prop := CP TT Tryz.f199 [1, 0, 1, 0] Qf (mkC TT 199 Tryz.f199 2 [(0, .v 24 (x0)), (1, .v 59 (.clo f1 c1)), (7, .v 3 (.int .i64 n7)), (8, .v 3 (.int .i64 n8))] [] g)
def lo199 : List CuI := [⟨2, [(0, .keep), (1, .keep), (7, .keep), (8, .keep)], []⟩]
theorem w199 {x0 : Dat} {f1 : FuncId} {c1 : List Dat} {g : Glob} {Qf : OGP} (h0 : Ha TT 24 x0)
    (h : L199_2 x0 f1 c1 (↑(elO x0).length : Int) 0 g Qf) :
    EvF TT 199 [x0, .clo f1 c1] g Qf :=
  su (rk := rk) (fn := Tryz.f199) (loops := lo199) (joins := []) (n := 100000) (args := [(24, x0), (59, .clo f1 c1)]) rfl rfl rfl rfl ⟨h0, tyClo rfl, trivial⟩ (by kernel_rfl) h
theorem w199_2 {x0 : Dat} {f1 : FuncId} {c1 : List Dat} {n7 : Int} {n8 : Int} {g : Glob} {Qf : OGP} 
    (h : Br (decide (n8 < n7)) (InB n8 (elO x0).length ∧ EvF TT f1 (gtE (elO x0) n8 :: c1) g (KQ Qf fun v g' => ∃ b, v = .d (.bool b) ∧ Br b (Qf (.val (.d (.int .i64 n8))) g') (L199_2 x0 f1 c1 n7 (IntKind.i64.wrap (n8 + 1)) g' Qf))) (Qf (.val (.d (.int .i64 (-1)))) g)) :
    L199_2 x0 f1 c1 n7 n8 g Qf := sxc (rk := rk) (loops := lo199) (joins := []) (n := 100000) (by kernel_rfl) h
def lo133 : List CuI := []
theorem w133 {x0 : Dat} {f1 : FuncId} {c1 : List Dat} {g : Glob} {Qf : OGP} (h0 : Ha TT 24 x0)
    (h : EvF TT 199 [x0, .clo f1 c1] g (KQ Qf fun v g' => ∃ n, v = .d (.int .i64 n) ∧ Qf (.val (.d (.bool (decide (0 ≤ n))))) g')) :
    EvF TT 133 [x0, .clo f1 c1] g Qf :=
  su (rk := rk) (fn := Tryz.f133) (loops := lo133) (joins := []) (n := 100000) (args := [(24, x0), (59, .clo f1 c1)]) rfl rfl rfl rfl ⟨h0, tyClo rfl, trivial⟩ (by kernel_rfl) h
def L201_2 (x0 : Dat) (f1 : FuncId) (c1 : List Dat) (n7 : Int) (n8 : Int) (g : Glob) (Qf : OGP) : Prop := CP TT Tryz.f201 [1, 0, 1, 0] Qf (mkC TT 201 Tryz.f201 2 [(0, .v 89 (x0)), (1, .v 160 (.clo f1 c1)), (7, .v 3 (.int .i64 n7)), (8, .v 3 (.int .i64 n8))] [] g)
def lo201 : List CuI := [⟨2, [(0, .keep), (1, .keep), (7, .keep), (8, .keep)], []⟩]
theorem w201 {x0 : Dat} {f1 : FuncId} {c1 : List Dat} {g : Glob} {Qf : OGP} (h0 : Ha TT 89 x0)
    (h : L201_2 x0 f1 c1 (↑(elO x0).length : Int) 0 g Qf) :
    EvF TT 201 [x0, .clo f1 c1] g Qf :=
  su (rk := rk) (fn := Tryz.f201) (loops := lo201) (joins := []) (n := 100000) (args := [(89, x0), (160, .clo f1 c1)]) rfl rfl rfl rfl ⟨h0, tyClo rfl, trivial⟩ (by kernel_rfl) h
theorem w201_2 {x0 : Dat} {f1 : FuncId} {c1 : List Dat} {n7 : Int} {n8 : Int} {g : Glob} {Qf : OGP} 
    (h : Br (decide (n8 < n7)) (InB n8 (elO x0).length ∧ EvF TT f1 (gtE (elO x0) n8 :: c1) g (KQ Qf fun v g' => ∃ b, v = .d (.bool b) ∧ Br b (Qf (.val (.d (.int .i64 n8))) g') (L201_2 x0 f1 c1 n7 (IntKind.i64.wrap (n8 + 1)) g' Qf))) (Qf (.val (.d (.int .i64 (-1)))) g)) :
    L201_2 x0 f1 c1 n7 n8 g Qf := sxc (rk := rk) (loops := lo201) (joins := []) (n := 100000) (by kernel_rfl) h
def lo137 : List CuI := []
theorem w137 {x0 : Dat} {f1 : FuncId} {c1 : List Dat} {g : Glob} {Qf : OGP} (h0 : Ha TT 89 x0)
    (h : EvF TT 201 [x0, .clo f1 c1] g (KQ Qf fun v g' => ∃ n, v = .d (.int .i64 n) ∧ Qf (.val (.d (.bool (decide (0 ≤ n))))) g')) :
    EvF TT 137 [x0, .clo f1 c1] g Qf :=
  su (rk := rk) (fn := Tryz.f137) (loops := lo137) (joins := []) (n := 100000) (args := [(89, x0), (160, .clo f1 c1)]) rfl rfl rfl rfl ⟨h0, tyClo rfl, trivial⟩ (by kernel_rfl) h
def L135_2 (x0 : Dat) (f1 : FuncId) (c1 : List Dat) (n7 : Int) (n8 : Int) (g : Glob) (Qf : OGP) : Prop := CP TT Tryz.f135 [1, 0, 1, 0] Qf (mkC TT 135 Tryz.f135 2 [(0, .v 23 (x0)), (1, .v 100 (.clo f1 c1)), (7, .v 3 (.int .i64 n7)), (8, .v 3 (.int .i64 n8))] [] g)
def lo135 : List CuI := [⟨2, [(0, .keep), (1, .keep), (7, .keep), (8, .keep)], []⟩]
theorem w135 {x0 : Dat} {f1 : FuncId} {c1 : List Dat} {g : Glob} {Qf : OGP} (h0 : Ha TT 23 x0)
    (h : L135_2 x0 f1 c1 (↑(elO x0).length : Int) 0 g Qf) :
    EvF TT 135 [x0, .clo f1 c1] g Qf :=
  su (rk := rk) (fn := Tryz.f135) (loops := lo135) (joins := []) (n := 100000) (args := [(23, x0), (100, .clo f1 c1)]) rfl rfl rfl rfl ⟨h0, tyClo rfl, trivial⟩ (by kernel_rfl) h
theorem w135_2 {x0 : Dat} {f1 : FuncId} {c1 : List Dat} {n7 : Int} {n8 : Int} {g : Glob} {Qf : OGP} 
    (h : Br (decide (n8 < n7)) (InB n8 (elO x0).length ∧ EvF TT f1 (gtE (elO x0) n8 :: c1) g (KQ Qf fun v g' => ∃ b, v = .d (.bool b) ∧ Br b (Qf (.val (.d (.int .i64 n8))) g') (L135_2 x0 f1 c1 n7 (IntKind.i64.wrap (n8 + 1)) g' Qf))) (Qf (.val (.d (.int .i64 (-1)))) g)) :
    L135_2 x0 f1 c1 n7 n8 g Qf := sxc (rk := rk) (loops := lo135) (joins := []) (n := 100000) (by kernel_rfl) h
def lo68 : List CuI := []
theorem w68 {x0 : Dat} {f1 : FuncId} {c1 : List Dat} {g : Glob} {Qf : OGP} (h0 : Ha TT 23 x0)
    (h : EvF TT 135 [x0, .clo f1 c1] g (KQ Qf fun v g' => ∃ n, v = .d (.int .i64 n) ∧ Qf (.val (.d (.bool (decide (0 ≤ n))))) g')) :
    EvF TT 68 [x0, .clo f1 c1] g Qf :=
  su (rk := rk) (fn := Tryz.f68) (loops := lo68) (joins := []) (n := 100000) (args := [(23, x0), (100, .clo f1 c1)]) rfl rfl rfl rfl ⟨h0, tyClo rfl, trivial⟩ (by kernel_rfl) h
def lo184 : List CuI := []
theorem w184 {x0 : Dat} {g : Glob} {Qf : OGP} (h0 : Ha TT 127 x0)
    (h : Br (decide ((↑(elO (fld x0 3)).length : Int) ≤ 8)) (EvF TT 130 [fld x0 3, .clo 215 []] g (KQ Qf fun v g' => ∃ b, v = .d (.bool b) ∧ Qf (.val (.d (.bool !b))) g')) (Qf (.val (.d (.bool false))) g)) :
    EvF TT 184 [x0] g Qf :=
  su (rk := rk) (fn := Tryz.f184) (loops := lo184) (joins := []) (n := 100000) (args := [(127, x0)]) rfl rfl rfl rfl ⟨h0, trivial⟩ (by kernel_rfl) h
def lo215 : List CuI := []
theorem w215 {x0 : Dat} {g : Glob} {Qf : OGP} (h0 : Ha TT 127 x0)
    (h : EvF TT 184 [x0] g (KQ Qf fun v g' => ∃ b, v = .d (.bool b) ∧ Qf (.val (.d (.bool !b))) g')) :
    EvF TT 215 [x0] g Qf :=
  su (rk := rk) (fn := Tryz.f215) (loops := lo215) (joins := []) (n := 100000) (args := [(127, x0)]) rfl rfl rfl rfl ⟨h0, trivial⟩ (by kernel_rfl) h
def lo183 : List CuI := []
theorem w183 {x0 : Dat} {g : Glob} {Qf : OGP} (h0 : Ha TT 127 x0)
    (h : EvF TT 184 [x0] g (KQ Qf fun v g' => ∃ b, v = .d (.bool b) ∧ Qf (.val (.d (.bool !b))) g')) :
    EvF TT 183 [x0] g Qf :=
  su (rk := rk) (fn := Tryz.f183) (loops := lo183) (joins := []) (n := 100000) (args := [(127, x0)]) rfl rfl rfl rfl ⟨h0, trivial⟩ (by kernel_rfl) h
def lo103 : List CuI := []
theorem w103 {x0 : Dat} {g : Glob} {Qf : OGP} (h0 : Ha TT 27 x0)
    (h : Br (intOf (fld x0 0) == 8) (Br (decide (8 < (↑(elO (fld x0 4)).length : Int))) (Qf (.val (.d (.bool false))) g) (EvF TT 130 [fld x0 5, .clo 183 []] g (KQ Qf fun v g' => ∃ b, v = .d (.bool b) ∧ Br (!b) (EvF TT 133 [fld x0 4, .clo 185 []] g' (KQ Qf fun v g' => ∃ b, v = .d (.bool b) ∧ Qf (.val (.d (.bool !b))) g')) (Qf (.val (.d (.bool false))) g')))) (EvF TT 130 [fld x0 5, .clo 183 []] g (KQ Qf fun v g' => ∃ b, v = .d (.bool b) ∧ Br (!b) (EvF TT 133 [fld x0 4, .clo 185 []] g' (KQ Qf fun v g' => ∃ b, v = .d (.bool b) ∧ Qf (.val (.d (.bool !b))) g')) (Qf (.val (.d (.bool false))) g')))) :
    EvF TT 103 [x0] g Qf :=
  su (rk := rk) (fn := Tryz.f103) (loops := lo103) (joins := []) (n := 100000) (args := [(27, x0)]) rfl rfl rfl rfl ⟨h0, trivial⟩ (by kernel_rfl) h
def lo185 : List CuI := []
theorem w185 {x0 : Dat} {g : Glob} {Qf : OGP} (h0 : Ha TT 27 x0)
    (h : EvF TT 103 [x0] g (KQ Qf fun v g' => ∃ b, v = .d (.bool b) ∧ Qf (.val (.d (.bool !b))) g')) :
    EvF TT 185 [x0] g Qf :=
  su (rk := rk) (fn := Tryz.f185) (loops := lo185) (joins := []) (n := 100000) (args := [(27, x0)]) rfl rfl rfl rfl ⟨h0, trivial⟩ (by kernel_rfl) h
def L47_4 (x30 : Dat) (n31 : Int) (n32 : Int) (y1 : Dat) (g : Glob) (Qf : OGP) : Prop := CP TT Tryz.f47 [1, 1, 0, 1, 0] Qf (mkC TT 47 Tryz.f47 1 [(1, .loc 1 0 0), (30, .v 23 (x30)), (31, .v 3 (.int .i64 n31)), (32, .v 3 (.int .i64 n32))] [(1, .whole 29 y1)] g)
def L47_9 (x30 : Dat) (n31 : Int) (n32 : Int) (x47 : Dat) (n48 : Int) (n49 : Int) (y1 : Dat) (g : Glob) (Qf : OGP) : Prop := CP TT Tryz.f47 [1, 1, 0, 1, 0, 0, 1, 1, 0, 0, 1, 1, 1, 0] Qf (mkC TT 47 Tryz.f47 1 [(1, .loc 1 0 0), (30, .v 23 (x30)), (31, .v 3 (.int .i64 n31)), (32, .v 3 (.int .i64 n32)), (47, .v 74 (x47)), (48, .v 3 (.int .i64 n48)), (49, .v 3 (.int .i64 n49))] [(1, .whole 29 y1)] g)
def L47_17 (n7 : Int) (x63 : Dat) (n64 : Int) (n65 : Int) (g : Glob) (Qf : OGP) : Prop := CP TT Tryz.f47 [1, 1, 1, 1, 0, 1, 0] Qf (mkC TT 47 Tryz.f47 1 [(7, .v 3 (.int .i64 n7)), (63, .v 23 (x63)), (64, .v 3 (.int .i64 n64)), (65, .v 3 (.int .i64 n65))] [] g)
def L47_20 (n7 : Int) (x63 : Dat) (n64 : Int) (n65 : Int) (x70 : Dat) (n71 : Int) (n72 : Int) (g : Glob) (Qf : OGP) : Prop := CP TT Tryz.f47 [1, 1, 1, 1, 0, 1, 0, 0, 1, 1, 0, 0, 1, 1, 0] Qf (mkC TT 47 Tryz.f47 1 [(7, .v 3 (.int .i64 n7)), (63, .v 23 (x63)), (64, .v 3 (.int .i64 n64)), (65, .v 3 (.int .i64 n65)), (70, .v 74 (x70)), (71, .v 3 (.int .i64 n71)), (72, .v 3 (.int .i64 n72))] [] g)
def L47_23 (n7 : Int) (x63 : Dat) (n64 : Int) (n65 : Int) (x70 : Dat) (n71 : Int) (n72 : Int) (x77 : Dat) (n78 : Int) (n79 : Int) (g : Glob) (Qf : OGP) : Prop := CP TT Tryz.f47 [1, 1, 1, 1, 0, 1, 0, 0, 1, 1, 0, 0, 1, 1, 0, 0, 1, 1, 0, 0, 1, 1, 0] Qf (mkC TT 47 Tryz.f47 1 [(7, .v 3 (.int .i64 n7)), (63, .v 23 (x63)), (64, .v 3 (.int .i64 n64)), (65, .v 3 (.int .i64 n65)), (70, .v 74 (x70)), (71, .v 3 (.int .i64 n71)), (72, .v 3 (.int .i64 n72)), (77, .v 89 (x77)), (78, .v 3 (.int .i64 n78)), (79, .v 3 (.int .i64 n79))] [] g)
def lo47 : List CuI := [⟨4, [(1, .keep), (30, .keep), (31, .keep), (32, .keep)], [(1, .whole 29)]⟩, ⟨9, [(1, .keep), (30, .keep), (31, .keep), (32, .keep), (47, .keep), (48, .keep), (49, .keep)], [(1, .whole 29)]⟩, ⟨17, [(7, .keep), (63, .keep), (64, .keep), (65, .keep)], []⟩, ⟨20, [(7, .keep), (63, .keep), (64, .keep), (65, .keep), (70, .keep), (71, .keep), (72, .keep)], []⟩, ⟨23, [(7, .keep), (63, .keep), (64, .keep), (65, .keep), (70, .keep), (71, .keep), (72, .keep), (77, .keep), (78, .keep), (79, .keep)], []⟩]
theorem w47 {x0 : Dat} {g : Glob} {Qf : OGP} (h0 : Ha TT 29 x0)
    (h : Br (decide (32 < (↑(elO (fld x0 0)).length : Int))) (Qf (.val (.d (.int .i64 3))) g) (EvF TT 26 [x0] g (KQ Qf fun v g' => ∃ n, v = .d (.int .i64 n) ∧ Br (decide (2048 < n)) (Qf (.val (.d (.int .i64 3))) g') (EvF TT 103 [sub x0 1 7] g' (KQ Qf fun v g' => ∃ b, v = .d (.bool b) ∧ Br (!b) (Qf (.val (.d (.int .i64 3))) g') (L47_4 (fld x0 0) (↑(elO (fld x0 0)).length : Int) 0 x0 g' Qf)))))) :
    EvF TT 47 [x0] g Qf :=
  su (rk := rk) (fn := Tryz.f47) (loops := lo47) (joins := []) (n := 100000) (args := [(29, x0)]) rfl rfl rfl rfl ⟨h0, trivial⟩ (by kernel_rfl) h
theorem w47_4 {x30 : Dat} {n31 : Int} {n32 : Int} {y1 : Dat} {g : Glob} {Qf : OGP} 
    (h : Br (decide (n32 < n31)) (InB n32 (elO x30).length ∧ Br (decide (4 < (↑(elO (fld (gtE (elO x30) n32) 1)).length : Int))) (Qf (.val (.d (.int .i64 3))) g) (Br (decide (32 < (↑(elO (fld (gtE (elO x30) n32) 2)).length : Int))) (Qf (.val (.d (.int .i64 3))) g) (L47_9 x30 n31 n32 (fld (gtE (elO x30) n32) 2) (↑(elO (fld (gtE (elO x30) n32) 2)).length : Int) 0 y1 g Qf))) (EvF TT 104 [sub y1 1 7] g (KQ Qf fun v g' => ∃ n, v = .d (.int .i64 n) ∧ L47_17 n (fld y1 0) (↑(elO (fld y1 0)).length : Int) 0 g' Qf))) :
    L47_4 x30 n31 n32 y1 g Qf := sxc (rk := rk) (loops := lo47) (joins := []) (n := 100000) (by kernel_rfl) h
theorem w47_9 {x30 : Dat} {n31 : Int} {n32 : Int} {x47 : Dat} {n48 : Int} {n49 : Int} {y1 : Dat} {g : Glob} {Qf : OGP} 
    (h : Br (decide (n49 < n48)) (InB n49 (elO x47).length ∧ Br (decide (8 < (↑(elO (fld (gtE (elO x47) n49) 1)).length : Int))) (Qf (.val (.d (.int .i64 3))) g) (L47_9 x30 n31 n32 x47 n48 (IntKind.i64.wrap (n49 + 1)) y1 g Qf)) (L47_4 x30 n31 (IntKind.i64.wrap (n32 + 1)) y1 g Qf)) :
    L47_9 x30 n31 n32 x47 n48 n49 y1 g Qf := sxc (rk := rk) (loops := lo47) (joins := []) (n := 100000) (by kernel_rfl) h
theorem w47_17 {n7 : Int} {x63 : Dat} {n64 : Int} {n65 : Int} {g : Glob} {Qf : OGP} 
    (h : Br (decide (n65 < n64)) (InB n65 (elO x63).length ∧ L47_20 n7 x63 n64 n65 (fld (gtE (elO x63) n65) 2) (↑(elO (fld (gtE (elO x63) n65) 2)).length : Int) 0 g Qf) (Br (decide (256 < n7)) (Qf (.val (.d (.int .i64 4))) g) (Qf (.val (.d (.int .i64 0))) g))) :
    L47_17 n7 x63 n64 n65 g Qf := sxc (rk := rk) (loops := lo47) (joins := []) (n := 100000) (by kernel_rfl) h
theorem w47_20 {n7 : Int} {x63 : Dat} {n64 : Int} {n65 : Int} {x70 : Dat} {n71 : Int} {n72 : Int} {g : Glob} {Qf : OGP} 
    (h : Br (decide (n72 < n71)) (InB n72 (elO x70).length ∧ L47_23 n7 x63 n64 n65 x70 n71 n72 (fld (gtE (elO x70) n72) 1) (↑(elO (fld (gtE (elO x70) n72) 1)).length : Int) 0 g Qf) (L47_17 n7 x63 n64 (IntKind.i64.wrap (n65 + 1)) g Qf)) :
    L47_20 n7 x63 n64 n65 x70 n71 n72 g Qf := sxc (rk := rk) (loops := lo47) (joins := []) (n := 100000) (by kernel_rfl) h
theorem w47_23 {n7 : Int} {x63 : Dat} {n64 : Int} {n65 : Int} {x70 : Dat} {n71 : Int} {n72 : Int} {x77 : Dat} {n78 : Int} {n79 : Int} {g : Glob} {Qf : OGP} 
    (h : Br (decide (n79 < n78)) (InB n79 (elO x77).length ∧ EvF TT 105 [gtE (elO x77) n79] g (KQ Qf fun v g' => ∃ n, v = .d (.int .i64 n) ∧ L47_23 (maxS true n7 n) x63 n64 n65 x70 n71 n72 x77 n78 (IntKind.i64.wrap (n79 + 1)) g' Qf)) (L47_20 n7 x63 n64 n65 x70 n71 (IntKind.i64.wrap (n72 + 1)) g Qf)) :
    L47_23 n7 x63 n64 n65 x70 n71 n72 x77 n78 n79 g Qf := sxc (rk := rk) (loops := lo47) (joins := []) (n := 100000) (by kernel_rfl) h
def lo132 : List CuI := []
theorem w132 {x0 : Dat} {g : Glob} {Qf : OGP} (h0 : Ha TT 127 x0)
    (h : Br (intOf (fld x0 0) == 1) (Br (strOf (fld x0 1) == []) (Br (intOf (fld x0 2) == 0) (Br ((↑(elO (fld x0 3)).length : Int) == 0) (EvF TT 130 [fld x0 3, .clo 198 []] g (KQ Qf fun v g' => ∃ b, v = .d (.bool b) ∧ Qf (.val (.d (.bool !b))) g')) (Qf (.val (.d (.bool false))) g)) (Qf (.val (.d (.bool false))) g)) (Qf (.val (.d (.bool false))) g)) (Br (intOf (fld x0 0) == 2) (EvF TT 136 [.int .i64 1, .str (strOf (fld x0 1))] g (KQ Qf fun v g' => ∃ b, v = .d (.bool b) ∧ Br b (Br (intOf (fld x0 2) == 0) (Br ((↑(elO (fld x0 3)).length : Int) == 0) (EvF TT 130 [fld x0 3, .clo 198 []] g' (KQ Qf fun v g' => ∃ b, v = .d (.bool b) ∧ Qf (.val (.d (.bool !b))) g')) (Qf (.val (.d (.bool false))) g')) (Qf (.val (.d (.bool false))) g')) (Qf (.val (.d (.bool false))) g'))) (Br (intOf (fld x0 0) == 3) (Br (strOf (fld x0 1) == []) (EvF TT 195 [.int .i64 (intOf (fld x0 2))] g (KQ Qf fun v g' => ∃ b, v = .d (.bool b) ∧ Br b (Br ((↑(elO (fld x0 3)).length : Int) == 0) (EvF TT 130 [fld x0 3, .clo 198 []] g' (KQ Qf fun v g' => ∃ b, v = .d (.bool b) ∧ Qf (.val (.d (.bool !b))) g')) (Qf (.val (.d (.bool false))) g')) (Qf (.val (.d (.bool false))) g'))) (Qf (.val (.d (.bool false))) g)) (Br (intOf (fld x0 0) == 4) (EvF TT 136 [.int .i64 2, .str (strOf (fld x0 1))] g (KQ Qf fun v g' => ∃ b, v = .d (.bool b) ∧ Br b (Br (intOf (fld x0 2) == 0) (EvF TT 130 [fld x0 3, .clo 198 []] g' (KQ Qf fun v g' => ∃ b, v = .d (.bool b) ∧ Qf (.val (.d (.bool !b))) g')) (Qf (.val (.d (.bool false))) g')) (Qf (.val (.d (.bool false))) g'))) (Qf (.val (.d (.bool false))) g))))) :
    EvF TT 132 [x0] g Qf :=
  su (rk := rk) (fn := Tryz.f132) (loops := lo132) (joins := []) (n := 100000) (args := [(127, x0)]) rfl rfl rfl rfl ⟨h0, trivial⟩ (by kernel_rfl) h
def lo198 : List CuI := []
theorem w198 {x0 : Dat} {g : Glob} {Qf : OGP} (h0 : Ha TT 127 x0)
    (h : EvF TT 132 [x0] g (KQ Qf fun v g' => ∃ b, v = .d (.bool b) ∧ Qf (.val (.d (.bool !b))) g')) :
    EvF TT 198 [x0] g Qf :=
  su (rk := rk) (fn := Tryz.f198) (loops := lo198) (joins := []) (n := 100000) (args := [(127, x0)]) rfl rfl rfl rfl ⟨h0, trivial⟩ (by kernel_rfl) h
def lo131 : List CuI := []
theorem w131 {x0 : Dat} {g : Glob} {Qf : OGP} (h0 : Ha TT 127 x0)
    (h : EvF TT 132 [x0] g (KQ Qf fun v g' => ∃ b, v = .d (.bool b) ∧ Qf (.val (.d (.bool !b))) g')) :
    EvF TT 131 [x0] g Qf :=
  su (rk := rk) (fn := Tryz.f131) (loops := lo131) (joins := []) (n := 100000) (args := [(127, x0)]) rfl rfl rfl rfl ⟨h0, trivial⟩ (by kernel_rfl) h
def lo139 : List CuI := []
theorem w139 {x0 : Dat} {g : Glob} {Qf : OGP} (h0 : Ha TT 94 x0)
    (h : Br (intOf (fld x0 0) == 1) (Br (strOf (fld x0 1) == []) (Br ((↑(elO (fld x0 3)).length : Int) == 0) (Br (intOf (fld x0 2) == 0) (EvF TT 137 [fld x0 3, .clo 202 []] g (KQ Qf fun v g' => ∃ b, v = .d (.bool b) ∧ Qf (.val (.d (.bool !b))) g')) (Qf (.val (.d (.bool false))) g)) (Qf (.val (.d (.bool false))) g)) (Qf (.val (.d (.bool false))) g)) (Br (intOf (fld x0 0) == 2) (EvF TT 136 [.int .i64 3, .str (strOf (fld x0 1))] g (KQ Qf fun v g' => ∃ b, v = .d (.bool b) ∧ Br b (Br ((↑(elO (fld x0 3)).length : Int) == 0) (Br (intOf (fld x0 2) == 0) (EvF TT 137 [fld x0 3, .clo 202 []] g' (KQ Qf fun v g' => ∃ b, v = .d (.bool b) ∧ Qf (.val (.d (.bool !b))) g')) (Qf (.val (.d (.bool false))) g')) (Qf (.val (.d (.bool false))) g')) (Qf (.val (.d (.bool false))) g'))) (Br (intOf (fld x0 0) == 3) (Br (strOf (fld x0 1) == []) (Br ((↑(elO (fld x0 3)).length : Int) == 2) (Br (intOf (fld x0 2) == 0) (EvF TT 137 [fld x0 3, .clo 202 []] g (KQ Qf fun v g' => ∃ b, v = .d (.bool b) ∧ Qf (.val (.d (.bool !b))) g')) (Qf (.val (.d (.bool false))) g)) (Qf (.val (.d (.bool false))) g)) (Qf (.val (.d (.bool false))) g)) (Br (intOf (fld x0 0) == 4) (EvF TT 136 [.int .i64 1, .str (strOf (fld x0 1))] g (KQ Qf fun v g' => ∃ b, v = .d (.bool b) ∧ Br b (Br (!strOf (fld x0 1) == [105, 110, 116]) (Br (intOf (fld x0 2) == 0) (EvF TT 137 [fld x0 3, .clo 202 []] g' (KQ Qf fun v g' => ∃ b, v = .d (.bool b) ∧ Qf (.val (.d (.bool !b))) g')) (Qf (.val (.d (.bool false))) g')) (Qf (.val (.d (.bool false))) g')) (Qf (.val (.d (.bool false))) g'))) (Qf (.val (.d (.bool false))) g))))) :
    EvF TT 139 [x0] g Qf :=
  su (rk := rk) (fn := Tryz.f139) (loops := lo139) (joins := []) (n := 100000) (args := [(94, x0)]) rfl rfl rfl rfl ⟨h0, trivial⟩ (by kernel_rfl) h
def lo202 : List CuI := []
theorem w202 {x0 : Dat} {g : Glob} {Qf : OGP} (h0 : Ha TT 94 x0)
    (h : EvF TT 139 [x0] g (KQ Qf fun v g' => ∃ b, v = .d (.bool b) ∧ Qf (.val (.d (.bool !b))) g')) :
    EvF TT 202 [x0] g Qf :=
  su (rk := rk) (fn := Tryz.f202) (loops := lo202) (joins := []) (n := 100000) (args := [(94, x0)]) rfl rfl rfl rfl ⟨h0, trivial⟩ (by kernel_rfl) h
def lo138 : List CuI := []
theorem w138 {x0 : Dat} {g : Glob} {Qf : OGP} (h0 : Ha TT 94 x0)
    (h : EvF TT 139 [x0] g (KQ Qf fun v g' => ∃ b, v = .d (.bool b) ∧ Qf (.val (.d (.bool !b))) g')) :
    EvF TT 138 [x0] g Qf :=
  su (rk := rk) (fn := Tryz.f138) (loops := lo138) (joins := []) (n := 100000) (args := [(94, x0)]) rfl rfl rfl rfl ⟨h0, trivial⟩ (by kernel_rfl) h
def lo129 : List CuI := []
theorem w129 {x0 : Dat} {g : Glob} {Qf : OGP} (h0 : Ha TT 27 x0)
    (h : Br (intOf (fld x0 0) == 1) (Br (intOf (fld x0 0) == 1) (EvF TT 136 [.int .i64 1, .str (strOf (fld x0 1))] g (KQ Qf fun v g' => ∃ b, v = .d (.bool b) ∧ Qf (.val (.d (.bool b))) g')) (Br (intOf (fld x0 0) == 6) (EvF TT 136 [.int .i64 1, .str (strOf (fld x0 1))] g (KQ Qf fun v g' => ∃ b, v = .d (.bool b) ∧ Br b (EvF TT 136 [.int .i64 1, .str (strOf (fld x0 2))] g' (KQ Qf fun v g' => ∃ b, v = .d (.bool b) ∧ Qf (.val (.d (.bool b))) g')) (Qf (.val (.d (.bool false))) g'))) (Br (intOf (fld x0 0) == 2) (EvF TT 195 [.int .i64 (intOf (fld x0 3))] g (KQ Qf fun v g' => ∃ b, v = .d (.bool b) ∧ Qf (.val (.d (.bool b))) g')) (Br (intOf (fld x0 0) == 7) (Qf (.val (.d (.bool (decide (0 < (↑(elO (fld x0 5)).length : Int)))))) g) (Br (intOf (fld x0 0) == 8) (EvF TT 136 [.int .i64 2, .str (strOf (fld x0 1))] g (KQ Qf fun v g' => ∃ b, v = .d (.bool b) ∧ Qf (.val (.d (.bool b))) g')) (Br (intOf (fld x0 0) == 9) (EvF TT 196 [.str (strOf (fld x0 1))] g (KQ Qf fun v g' => ∃ n, v = .d (.int .i64 n) ∧ Qf (.val (.d (.bool (n != 0)))) g')) (Qf (.val (.d (.bool true))) g)))))))
  (Br (intOf (fld x0 0) == 3) (Br (intOf (fld x0 0) == 3) (EvF TT 136 [.int .i64 1, .str (strOf (fld x0 1))] g (KQ Qf fun v g' => ∃ b, v = .d (.bool b) ∧ Qf (.val (.d (.bool b))) g')) (Br (intOf (fld x0 0) == 6) (EvF TT 136 [.int .i64 1, .str (strOf (fld x0 1))] g (KQ Qf fun v g' => ∃ b, v = .d (.bool b) ∧ Br b (EvF TT 136 [.int .i64 1, .str (strOf (fld x0 2))] g' (KQ Qf fun v g' => ∃ b, v = .d (.bool b) ∧ Qf (.val (.d (.bool b))) g')) (Qf (.val (.d (.bool false))) g'))) (Br (intOf (fld x0 0) == 2) (EvF TT 195 [.int .i64 (intOf (fld x0 3))] g (KQ Qf fun v g' => ∃ b, v = .d (.bool b) ∧ Qf (.val (.d (.bool b))) g')) (Br (intOf (fld x0 0) == 7) (Qf (.val (.d (.bool (decide (0 < (↑(elO (fld x0 5)).length : Int)))))) g) (Br (intOf (fld x0 0) == 8) (EvF TT 136 [.int .i64 2, .str (strOf (fld x0 1))] g (KQ Qf fun v g' => ∃ b, v = .d (.bool b) ∧ Qf (.val (.d (.bool b))) g')) (Br (intOf (fld x0 0) == 9) (EvF TT 196 [.str (strOf (fld x0 1))] g (KQ Qf fun v g' => ∃ n, v = .d (.int .i64 n) ∧ Qf (.val (.d (.bool (n != 0)))) g')) (Qf (.val (.d (.bool true))) g))))))) (Br (intOf (fld x0 0) == 5) (EvF TT 136 [.int .i64 1, .str (strOf (fld x0 1))] g (KQ Qf fun v g' => ∃ b, v = .d (.bool b) ∧ Qf (.val (.d (.bool b))) g')) (Br (intOf (fld x0 0) == 6) (EvF TT 136 [.int .i64 1, .str (strOf (fld x0 1))] g (KQ Qf fun v g' => ∃ b, v = .d (.bool b) ∧ Br b (EvF TT 136 [.int .i64 1, .str (strOf (fld x0 2))] g' (KQ Qf fun v g' => ∃ b, v = .d (.bool b) ∧ Qf (.val (.d (.bool b))) g')) (Qf (.val (.d (.bool false))) g'))) (Br (intOf (fld x0 0) == 2) (EvF TT 195 [.int .i64 (intOf (fld x0 3))] g (KQ Qf fun v g' => ∃ b, v = .d (.bool b) ∧ Qf (.val (.d (.bool b))) g')) (Br (intOf (fld x0 0) == 7) (Qf (.val (.d (.bool (decide (0 < (↑(elO (fld x0 5)).length : Int)))))) g) (Br (intOf (fld x0 0) == 8) (EvF TT 136 [.int .i64 2, .str (strOf (fld x0 1))] g (KQ Qf fun v g' => ∃ b, v = .d (.bool b) ∧ Qf (.val (.d (.bool b))) g')) (Br (intOf (fld x0 0) == 9) (EvF TT 196 [.str (strOf (fld x0 1))] g (KQ Qf fun v g' => ∃ n, v = .d (.int .i64 n) ∧ Qf (.val (.d (.bool (n != 0)))) g')) (Qf (.val (.d (.bool true))) g))))))))) :
    EvF TT 129 [x0] g Qf :=
  su (rk := rk) (fn := Tryz.f129) (loops := lo129) (joins := []) (n := 100000) (args := [(27, x0)]) rfl rfl rfl rfl ⟨h0, trivial⟩ (by kernel_rfl) h
def lo67 : List CuI := []
theorem w67 {x0 : Dat} {g : Glob} {Qf : OGP} (h0 : Ha TT 27 x0)
    (h : Br (intOf (fld x0 0) == 1) (Br ((↑(elO (fld x0 4)).length : Int) != 0) (Qf (.val (.d (.bool false))) g) (Br (!strOf (fld x0 1) == strOf (fld x0 1)) (Qf (.val (.d (.bool false))) g) (Br (!strOf (fld x0 2) == []) (Qf (.val (.d (.bool false))) g) (Br (intOf (fld x0 3) != intOf (.int .i64 0)) (Qf (.val (.d (.bool false))) g) (Br ((↑(elO (fld x0 5)).length : Int) != (↑([] : List Dat).length : Int)) (Qf (.val (.d (.bool false))) g) (EvF TT 129 [x0] g (KQ Qf fun v g' => ∃ b, v = .d (.bool b) ∧ Br (!b) (Qf (.val (.d (.bool false))) g') (EvF TT 130 [fld x0 5, .clo 131 []] g' (KQ Qf fun v g' => ∃ b, v = .d (.bool b) ∧ Br (!b) (EvF TT 133 [fld x0 4, .clo 134 []] g' (KQ Qf fun v g' => ∃ b, v = .d (.bool b) ∧ Qf (.val (.d (.bool !b))) g')) (Qf (.val (.d (.bool false))) g'))))))))))
  (Br (intOf (fld x0 0) == 2) (Br ((↑(elO (fld x0 4)).length : Int) != 0) (Qf (.val (.d (.bool false))) g) (Br (!strOf (fld x0 1) == []) (Qf (.val (.d (.bool false))) g) (Br (!strOf (fld x0 2) == []) (Qf (.val (.d (.bool false))) g) (Br (intOf (fld x0 3) != intOf (fld x0 3)) (Qf (.val (.d (.bool false))) g) (Br ((↑(elO (fld x0 5)).length : Int) != (↑([] : List Dat).length : Int)) (Qf (.val (.d (.bool false))) g) (EvF TT 129 [x0] g (KQ Qf fun v g' => ∃ b, v = .d (.bool b) ∧ Br (!b) (Qf (.val (.d (.bool false))) g') (EvF TT 130 [fld x0 5, .clo 131 []] g' (KQ Qf fun v g' => ∃ b, v = .d (.bool b) ∧ Br (!b) (EvF TT 133 [fld x0 4, .clo 134 []] g' (KQ Qf fun v g' => ∃ b, v = .d (.bool b) ∧ Qf (.val (.d (.bool !b))) g')) (Qf (.val (.d (.bool false))) g'))))))))))
    (Br (intOf (fld x0 0) == 3) (Br ((↑(elO (fld x0 4)).length : Int) != 1) (Qf (.val (.d (.bool false))) g) (Br (!strOf (fld x0 1) == strOf (fld x0 1)) (Qf (.val (.d (.bool false))) g) (Br (!strOf (fld x0 2) == []) (Qf (.val (.d (.bool false))) g) (Br (intOf (fld x0 3) != intOf (.int .i64 0)) (Qf (.val (.d (.bool false))) g) (Br ((↑(elO (fld x0 5)).length : Int) != (↑([] : List Dat).length : Int)) (Qf (.val (.d (.bool false))) g) (EvF TT 129 [x0] g (KQ Qf fun v g' => ∃ b, v = .d (.bool b) ∧ Br (!b) (Qf (.val (.d (.bool false))) g') (EvF TT 130 [fld x0 5, .clo 131 []] g' (KQ Qf fun v g' => ∃ b, v = .d (.bool b) ∧ Br (!b) (EvF TT 133 [fld x0 4, .clo 134 []] g' (KQ Qf fun v g' => ∃ b, v = .d (.bool b) ∧ Qf (.val (.d (.bool !b))) g')) (Qf (.val (.d (.bool false))) g'))))))))))
      (Br (intOf (fld x0 0) == 4) (Br ((↑(elO (fld x0 4)).length : Int) != 2) (Qf (.val (.d (.bool false))) g) (Br (!strOf (fld x0 1) == []) (Qf (.val (.d (.bool false))) g) (Br (!strOf (fld x0 2) == []) (Qf (.val (.d (.bool false))) g) (Br (intOf (fld x0 3) != intOf (.int .i64 0)) (Qf (.val (.d (.bool false))) g) (Br ((↑(elO (fld x0 5)).length : Int) != (↑([] : List Dat).length : Int)) (Qf (.val (.d (.bool false))) g) (EvF TT 129 [x0] g (KQ Qf fun v g' => ∃ b, v = .d (.bool b) ∧ Br (!b) (Qf (.val (.d (.bool false))) g') (EvF TT 130 [fld x0 5, .clo 131 []] g' (KQ Qf fun v g' => ∃ b, v = .d (.bool b) ∧ Br (!b) (EvF TT 133 [fld x0 4, .clo 134 []] g' (KQ Qf fun v g' => ∃ b, v = .d (.bool b) ∧ Qf (.val (.d (.bool !b))) g')) (Qf (.val (.d (.bool false))) g'))))))))))
        (Br (intOf (fld x0 0) == 5) (Br ((↑(elO (fld x0 4)).length : Int) != 2) (Qf (.val (.d (.bool false))) g) (Br (!strOf (fld x0 1) == strOf (fld x0 1)) (Qf (.val (.d (.bool false))) g) (Br (!strOf (fld x0 2) == []) (Qf (.val (.d (.bool false))) g) (Br (intOf (fld x0 3) != intOf (.int .i64 0)) (Qf (.val (.d (.bool false))) g) (Br ((↑(elO (fld x0 5)).length : Int) != (↑([] : List Dat).length : Int)) (Qf (.val (.d (.bool false))) g) (EvF TT 129 [x0] g (KQ Qf fun v g' => ∃ b, v = .d (.bool b) ∧ Br (!b) (Qf (.val (.d (.bool false))) g') (EvF TT 130 [fld x0 5, .clo 131 []] g' (KQ Qf fun v g' => ∃ b, v = .d (.bool b) ∧ Br (!b) (EvF TT 133 [fld x0 4, .clo 134 []] g' (KQ Qf fun v g' => ∃ b, v = .d (.bool b) ∧ Qf (.val (.d (.bool !b))) g')) (Qf (.val (.d (.bool false))) g'))))))))))
          (Br (intOf (fld x0 0) == 6) (Br ((↑(elO (fld x0 4)).length : Int) != 2) (Qf (.val (.d (.bool false))) g) (Br (!strOf (fld x0 1) == strOf (fld x0 1)) (Qf (.val (.d (.bool false))) g) (Br (!strOf (fld x0 2) == strOf (fld x0 2)) (Qf (.val (.d (.bool false))) g) (Br (intOf (fld x0 3) != intOf (.int .i64 0)) (Qf (.val (.d (.bool false))) g) (Br ((↑(elO (fld x0 5)).length : Int) != (↑([] : List Dat).length : Int)) (Qf (.val (.d (.bool false))) g) (EvF TT 129 [x0] g (KQ Qf fun v g' => ∃ b, v = .d (.bool b) ∧ Br (!b) (Qf (.val (.d (.bool false))) g') (EvF TT 130 [fld x0 5, .clo 131 []] g' (KQ Qf fun v g' => ∃ b, v = .d (.bool b) ∧ Br (!b) (EvF TT 133 [fld x0 4, .clo 134 []] g' (KQ Qf fun v g' => ∃ b, v = .d (.bool b) ∧ Qf (.val (.d (.bool !b))) g')) (Qf (.val (.d (.bool false))) g'))))))))))
            (Br (intOf (fld x0 0) == 7) (Br ((↑(elO (fld x0 4)).length : Int) != IntKind.i64.wrap ((↑(elO (fld x0 5)).length : Int) + 1)) (Qf (.val (.d (.bool false))) g) (Br (!strOf (fld x0 1) == []) (Qf (.val (.d (.bool false))) g) (Br (!strOf (fld x0 2) == []) (Qf (.val (.d (.bool false))) g) (Br (intOf (fld x0 3) != intOf (.int .i64 0)) (Qf (.val (.d (.bool false))) g) (Br ((↑(elO (fld x0 5)).length : Int) != (↑(elO (fld x0 5)).length : Int)) (Qf (.val (.d (.bool false))) g) (EvF TT 129 [x0] g (KQ Qf fun v g' => ∃ b, v = .d (.bool b) ∧ Br (!b) (Qf (.val (.d (.bool false))) g') (EvF TT 130 [fld x0 5, .clo 131 []] g' (KQ Qf fun v g' => ∃ b, v = .d (.bool b) ∧ Br (!b) (EvF TT 133 [fld x0 4, .clo 134 []] g' (KQ Qf fun v g' => ∃ b, v = .d (.bool b) ∧ Qf (.val (.d (.bool !b))) g')) (Qf (.val (.d (.bool false))) g'))))))))))
              (Br (intOf (fld x0 0) == 8) (Br ((↑(elO (fld x0 4)).length : Int) != (↑(elO (fld x0 4)).length : Int)) (Qf (.val (.d (.bool false))) g) (Br (!strOf (fld x0 1) == strOf (fld x0 1)) (Qf (.val (.d (.bool false))) g) (Br (!strOf (fld x0 2) == []) (Qf (.val (.d (.bool false))) g) (Br (intOf (fld x0 3) != intOf (.int .i64 0)) (Qf (.val (.d (.bool false))) g) (Br ((↑(elO (fld x0 5)).length : Int) != (↑([] : List Dat).length : Int)) (Qf (.val (.d (.bool false))) g) (EvF TT 129 [x0] g (KQ Qf fun v g' => ∃ b, v = .d (.bool b) ∧ Br (!b) (Qf (.val (.d (.bool false))) g') (EvF TT 130 [fld x0 5, .clo 131 []] g' (KQ Qf fun v g' => ∃ b, v = .d (.bool b) ∧ Br (!b) (EvF TT 133 [fld x0 4, .clo 134 []] g' (KQ Qf fun v g' => ∃ b, v = .d (.bool b) ∧ Qf (.val (.d (.bool !b))) g')) (Qf (.val (.d (.bool false))) g')))))))))) (Br (intOf (fld x0 0) == 9) (Br ((↑(elO (fld x0 4)).length : Int) != 2) (Qf (.val (.d (.bool false))) g) (Br (!strOf (fld x0 1) == strOf (fld x0 1)) (Qf (.val (.d (.bool false))) g) (Br (!strOf (fld x0 2) == []) (Qf (.val (.d (.bool false))) g) (Br (intOf (fld x0 3) != intOf (.int .i64 0)) (Qf (.val (.d (.bool false))) g) (Br ((↑(elO (fld x0 5)).length : Int) != (↑([] : List Dat).length : Int)) (Qf (.val (.d (.bool false))) g) (EvF TT 129 [x0] g (KQ Qf fun v g' => ∃ b, v = .d (.bool b) ∧ Br (!b) (Qf (.val (.d (.bool false))) g') (EvF TT 130 [fld x0 5, .clo 131 []] g' (KQ Qf fun v g' => ∃ b, v = .d (.bool b) ∧ Br (!b) (EvF TT 133 [fld x0 4, .clo 134 []] g' (KQ Qf fun v g' => ∃ b, v = .d (.bool b) ∧ Qf (.val (.d (.bool !b))) g')) (Qf (.val (.d (.bool false))) g')))))))))) (Br (intOf (fld x0 0) == 10) (Br ((↑(elO (fld x0 4)).length : Int) != 1) (Qf (.val (.d (.bool false))) g) (Br (!strOf (fld x0 1) == []) (Qf (.val (.d (.bool false))) g) (Br (!strOf (fld x0 2) == []) (Qf (.val (.d (.bool false))) g) (Br (intOf (fld x0 3) != intOf (.int .i64 0)) (Qf (.val (.d (.bool false))) g) (Br ((↑(elO (fld x0 5)).length : Int) != (↑([] : List Dat).length : Int)) (Qf (.val (.d (.bool false))) g) (EvF TT 129 [x0] g (KQ Qf fun v g' => ∃ b, v = .d (.bool b) ∧ Br (!b) (Qf (.val (.d (.bool false))) g') (EvF TT 130 [fld x0 5, .clo 131 []] g' (KQ Qf fun v g' => ∃ b, v = .d (.bool b) ∧ Br (!b) (EvF TT 133 [fld x0 4, .clo 134 []] g' (KQ Qf fun v g' => ∃ b, v = .d (.bool b) ∧ Qf (.val (.d (.bool !b))) g')) (Qf (.val (.d (.bool false))) g')))))))))) (Qf (.val (.d (.bool false))) g))))))))))) :
    EvF TT 67 [x0] g Qf :=
  su (rk := rk) (fn := Tryz.f67) (loops := lo67) (joins := []) (n := 100000) (args := [(27, x0)]) rfl rfl rfl rfl ⟨h0, trivial⟩ (by kernel_rfl) h
def lo134 : List CuI := []
theorem w134 {x0 : Dat} {g : Glob} {Qf : OGP} (h0 : Ha TT 27 x0)
    (h : EvF TT 67 [x0] g (KQ Qf fun v g' => ∃ b, v = .d (.bool b) ∧ Qf (.val (.d (.bool !b))) g')) :
    EvF TT 134 [x0] g Qf :=
  su (rk := rk) (fn := Tryz.f134) (loops := lo134) (joins := []) (n := 100000) (args := [(27, x0)]) rfl rfl rfl rfl ⟨h0, trivial⟩ (by kernel_rfl) h
def L70_4 (x18 : Dat) (n19 : Int) (n20 : Int) (y1 : Dat) (g : Glob) (Qf : OGP) : Prop := CP TT Tryz.f70 [1, 1, 0, 1, 0] Qf (mkC TT 70 Tryz.f70 1 [(1, .loc 1 0 0), (18, .v 61 (x18)), (19, .v 3 (.int .i64 n19)), (20, .v 3 (.int .i64 n20))] [(1, .whole 76 y1)] g)
def L70_10 (x29 : Dat) (n30 : Int) (n31 : Int) (g : Glob) (Qf : OGP) : Prop := CP TT Tryz.f70 [1, 1, 1, 0, 1, 0] Qf (mkC TT 70 Tryz.f70 1 [(29, .v 74 (x29)), (30, .v 3 (.int .i64 n30)), (31, .v 3 (.int .i64 n31))] [] g)
def lo70 : List CuI := [⟨4, [(1, .keep), (18, .keep), (19, .keep), (20, .keep)], [(1, .whole 76)]⟩, ⟨10, [(29, .keep), (30, .keep), (31, .keep)], []⟩]
theorem w70 {x0 : Dat} {g : Glob} {Qf : OGP} (h0 : Ha TT 76 x0)
    (h : EvF TT 136 [.int .i64 1, .str (strOf (fld x0 0))] g (KQ Qf fun v g' => ∃ b, v = .d (.bool b) ∧ Br (!b) (Qf (.val (.d (.bool false))) g') (Br ((↑(elO (fld x0 2)).length : Int) == 0) (Qf (.val (.d (.bool false))) g') (L70_4 (fld x0 1) (↑(elO (fld x0 1)).length : Int) 0 x0 g' Qf)))) :
    EvF TT 70 [x0] g Qf :=
  su (rk := rk) (fn := Tryz.f70) (loops := lo70) (joins := []) (n := 100000) (args := [(76, x0)]) rfl rfl rfl rfl ⟨h0, trivial⟩ (by kernel_rfl) h
theorem w70_4 {x18 : Dat} {n19 : Int} {n20 : Int} {y1 : Dat} {g : Glob} {Qf : OGP} 
    (h : Br (decide (n20 < n19)) (InB n20 (elO x18).length ∧ EvF TT 136 [.int .i64 3, .str (strOf (fld (gtE (elO x18) n20) 0))] g (KQ Qf fun v g' => ∃ b, v = .d (.bool b) ∧ Br (!b) (Qf (.val (.d (.bool false))) g') (L70_4 x18 n19 (IntKind.i64.wrap (n20 + 1)) y1 g' Qf))) (L70_10 (fld y1 2) (↑(elO (fld y1 2)).length : Int) 0 g Qf)) :
    L70_4 x18 n19 n20 y1 g Qf := sxc (rk := rk) (loops := lo70) (joins := []) (n := 100000) (by kernel_rfl) h
theorem w70_10 {x29 : Dat} {n30 : Int} {n31 : Int} {g : Glob} {Qf : OGP} 
    (h : Br (decide (n31 < n30)) (InB n31 (elO x29).length ∧ EvF TT 136 [.int .i64 2, .str (strOf (fld (gtE (elO x29) n31) 0))] g (KQ Qf fun v g' => ∃ b, v = .d (.bool b) ∧ Br (!b) (Qf (.val (.d (.bool false))) g') (EvF TT 137 [fld (gtE (elO x29) n31) 1, .clo 138 []] g' (KQ Qf fun v g' => ∃ b, v = .d (.bool b) ∧ Br b (Qf (.val (.d (.bool false))) g') (L70_10 x29 n30 (IntKind.i64.wrap (n31 + 1)) g' Qf))))) (Qf (.val (.d (.bool true))) g)) :
    L70_10 x29 n30 n31 g Qf := sxc (rk := rk) (loops := lo70) (joins := []) (n := 100000) (by kernel_rfl) h
def lo69 : List CuI := []
theorem w69 {x0 : Dat} {g : Glob} {Qf : OGP} (h0 : Ha TT 76 x0)
    (h : EvF TT 70 [x0] g (KQ Qf fun v g' => ∃ b, v = .d (.bool b) ∧ Qf (.val (.d (.bool !b))) g')) :
    EvF TT 69 [x0] g Qf :=
  su (rk := rk) (fn := Tryz.f69) (loops := lo69) (joins := []) (n := 100000) (args := [(76, x0)]) rfl rfl rfl rfl ⟨h0, trivial⟩ (by kernel_rfl) h
def lo24 : List CuI := []
theorem w24 {x0 : Dat} {g : Glob} {Qf : OGP} (h0 : Ha TT 29 x0)
    (h : EvF TT 47 [x0] g (KQ Qf fun v g' => ∃ n, v = .d (.int .i64 n) ∧ Br (n != 0) (Qf (.val (.d (.bool false))) g') (EvF TT 67 [sub x0 1 7] g' (KQ Qf fun v g' => ∃ b, v = .d (.bool b) ∧ Br (!b) (Qf (.val (.d (.bool false))) g') (EvF TT 68 [fld x0 0, .clo 69 []] g' (KQ Qf fun v g' => ∃ b, v = .d (.bool b) ∧ Qf (.val (.d (.bool !b))) g')))))) :
    EvF TT 24 [x0] g Qf :=
  su (rk := rk) (fn := Tryz.f24) (loops := lo24) (joins := []) (n := 100000) (args := [(29, x0)]) rfl rfl rfl rfl ⟨h0, trivial⟩ (by kernel_rfl) h
end Go.Proofs.YtgmapdcdmomioaaGreatDoor.Pa
namespace Go.Proofs.YtgmapdcdmomioaaGreatDoor.Pa
open Go Go.Proofs.YtgmapdcdmomioaaGreatDoor.Am
def opL : List Str := [[43], [45], [42], [47], [37], [60], [61, 61]]
def ixF (s : Str) : List Str → Int → Int
  | [], _ => 0
  | x :: l, i => bif x == s then i else ixF s l (i + 1)
def opN (s : Str) : Int := ixF s opL 1
section
variable {s : Str} {g : Glob} {Qf : OGP}
theorem intsOp_ok (hs : s.length ≤ 2 ^ 40) (hQ : Qf (.val (.d (.int .i64 (opN s)))) g) : EvF TT 196 [.str s] g Qf := by
  refine w196 hs (w220 ⟨_, ?_, rfl, ?_⟩)
  · refine stu (tys := [9, 9, 9, 9, 9, 9, 9, 9]) (by kernel_rfl) (by kernel_rfl) (by kernel_rfl) ⟨?_, ?_, ?_, ?_, ?_, ?_, ?_, ?_, trivial⟩ <;> exact tyt (by simp)
  · simp only [opN, opL, ixF] at hQ
    refine w196_2 ?_
    refine Bi.2 ⟨fun _ => ?_, fun h => by simp at h⟩
    simp only [show ((0 : Int) == 7) = false from rfl, show ((0 : Int) == 6) = false from rfl, show ((0 : Int) == 5) = false from rfl, show ((0 : Int) == 4) = false from rfl, show ((0 : Int) == 3) = false from rfl, show ((0 : Int) == 2) = false from rfl, show ((0 : Int) == 1) = false from rfl, show ((0 : Int) == 0) = true from rfl, Br_true, Bf, show decide ((0 : Int) < 0) = false from rfl, show IntKind.i64.wrap (0 + 1) = 1 from rfl]
    have step : ∀ {X : Prop} {b : Bool}, X → Br b X X := fun h => by cases ‹Bool› <;> exact h
    refine step ?_
    refine w196_2 (Bi.2 ⟨fun _ => ?_, fun h => by simp at h⟩)
    simp only [show ((1 : Int) == 7) = false from rfl, show ((1 : Int) == 6) = false from rfl, show ((1 : Int) == 5) = false from rfl, show ((1 : Int) == 4) = false from rfl, show ((1 : Int) == 3) = false from rfl, show ((1 : Int) == 2) = false from rfl, show ((1 : Int) == 1) = true from rfl, show ((1 : Int) == 0) = false from rfl, Br_true, Bf, show decide ((0 : Int) < 1) = true from rfl, show IntKind.i64.wrap (1 + 1) = 2 from rfl]
    refine Bi.2 ⟨fun q => ?_, fun q => ?_⟩
    · rw [show (([43] : Str) == s) = true from q] at hQ
      exact hQ
    rw [show (([43] : Str) == s) = false from q, cond_false] at hQ
    refine w196_2 (Bi.2 ⟨fun _ => ?_, fun h => by simp at h⟩)
    simp only [show ((2 : Int) == 7) = false from rfl, show ((2 : Int) == 6) = false from rfl, show ((2 : Int) == 5) = false from rfl, show ((2 : Int) == 4) = false from rfl, show ((2 : Int) == 3) = false from rfl, show ((2 : Int) == 2) = true from rfl, show ((2 : Int) == 1) = false from rfl, show ((2 : Int) == 0) = false from rfl, Br_true, Bf, show decide ((0 : Int) < 2) = true from rfl, show IntKind.i64.wrap (2 + 1) = 3 from rfl]
    refine Bi.2 ⟨fun q => ?_, fun q => ?_⟩
    · rw [show (([45] : Str) == s) = true from q] at hQ
      exact hQ
    rw [show (([45] : Str) == s) = false from q, cond_false] at hQ
    refine w196_2 (Bi.2 ⟨fun _ => ?_, fun h => by simp at h⟩)
    simp only [show ((3 : Int) == 7) = false from rfl, show ((3 : Int) == 6) = false from rfl, show ((3 : Int) == 5) = false from rfl, show ((3 : Int) == 4) = false from rfl, show ((3 : Int) == 3) = true from rfl, show ((3 : Int) == 2) = false from rfl, show ((3 : Int) == 1) = false from rfl, show ((3 : Int) == 0) = false from rfl, Br_true, Bf, show decide ((0 : Int) < 3) = true from rfl, show IntKind.i64.wrap (3 + 1) = 4 from rfl]
    refine Bi.2 ⟨fun q => ?_, fun q => ?_⟩
    · rw [show (([42] : Str) == s) = true from q] at hQ
      exact hQ
    rw [show (([42] : Str) == s) = false from q, cond_false] at hQ
    refine w196_2 (Bi.2 ⟨fun _ => ?_, fun h => by simp at h⟩)
    simp only [show ((4 : Int) == 7) = false from rfl, show ((4 : Int) == 6) = false from rfl, show ((4 : Int) == 5) = false from rfl, show ((4 : Int) == 4) = true from rfl, show ((4 : Int) == 3) = false from rfl, show ((4 : Int) == 2) = false from rfl, show ((4 : Int) == 1) = false from rfl, show ((4 : Int) == 0) = false from rfl, Br_true, Bf, show decide ((0 : Int) < 4) = true from rfl, show IntKind.i64.wrap (4 + 1) = 5 from rfl]
    refine Bi.2 ⟨fun q => ?_, fun q => ?_⟩
    · rw [show (([47] : Str) == s) = true from q] at hQ
      exact hQ
    rw [show (([47] : Str) == s) = false from q, cond_false] at hQ
    refine w196_2 (Bi.2 ⟨fun _ => ?_, fun h => by simp at h⟩)
    simp only [show ((5 : Int) == 7) = false from rfl, show ((5 : Int) == 6) = false from rfl, show ((5 : Int) == 5) = true from rfl, show ((5 : Int) == 4) = false from rfl, show ((5 : Int) == 3) = false from rfl, show ((5 : Int) == 2) = false from rfl, show ((5 : Int) == 1) = false from rfl, show ((5 : Int) == 0) = false from rfl, Br_true, Bf, show decide ((0 : Int) < 5) = true from rfl, show IntKind.i64.wrap (5 + 1) = 6 from rfl]
    refine Bi.2 ⟨fun q => ?_, fun q => ?_⟩
    · rw [show (([37] : Str) == s) = true from q] at hQ
      exact hQ
    rw [show (([37] : Str) == s) = false from q, cond_false] at hQ
    refine w196_2 (Bi.2 ⟨fun _ => ?_, fun h => by simp at h⟩)
    simp only [show ((6 : Int) == 7) = false from rfl, show ((6 : Int) == 6) = true from rfl, show ((6 : Int) == 5) = false from rfl, show ((6 : Int) == 4) = false from rfl, show ((6 : Int) == 3) = false from rfl, show ((6 : Int) == 2) = false from rfl, show ((6 : Int) == 1) = false from rfl, show ((6 : Int) == 0) = false from rfl, Br_true, Bf, show decide ((0 : Int) < 6) = true from rfl, show IntKind.i64.wrap (6 + 1) = 7 from rfl]
    refine Bi.2 ⟨fun q => ?_, fun q => ?_⟩
    · rw [show (([60] : Str) == s) = true from q] at hQ
      exact hQ
    rw [show (([60] : Str) == s) = false from q, cond_false] at hQ
    refine w196_2 (Bi.2 ⟨fun _ => ?_, fun h => by simp at h⟩)
    simp only [show ((7 : Int) == 7) = true from rfl, show ((7 : Int) == 6) = false from rfl, show ((7 : Int) == 5) = false from rfl, show ((7 : Int) == 4) = false from rfl, show ((7 : Int) == 3) = false from rfl, show ((7 : Int) == 2) = false from rfl, show ((7 : Int) == 1) = false from rfl, show ((7 : Int) == 0) = false from rfl, Br_true, Bf, show decide ((0 : Int) < 7) = true from rfl, show IntKind.i64.wrap (7 + 1) = 8 from rfl]
    refine Bi.2 ⟨fun q => ?_, fun q => ?_⟩
    · rw [show (([61, 61] : Str) == s) = true from q] at hQ
      exact hQ
    rw [show (([61, 61] : Str) == s) = false from q, cond_false] at hQ
    refine w196_2 (Bi.2 ⟨fun h => by simp at h, fun _ => hQ⟩)
theorem coa {f : FuncId} {c : List Dat} {p : Dat → Bool} {x : Dat} (hx : Ha TT 25 x) (hf : ∀ y ∈ elO x, ∀ Q : Out → Glob → Prop, Q (.val (.d (.bool (p y)))) g → EvF TT f (y :: c) g Q) (hQ : Qf (.val (.d (.bool ((elO x).any p)))) g) : EvF TT 130 [x, .clo f c] g Qf := by
  have exl := len_le uP hx
  refine w130 hx (w197 hx ?_)
  refine lU (len := (elO x).length) (fun i => Qf (.val (.d (.bool (((elO x).drop i).any p)))) g → L197_2 x f c ((elO x).length : Int) (i : Int) g _) ?_ ?_ 0 (Nat.zero_le _) hQ
  · intro hQ
    refine w197_2 ?_
    rw [Bg]
    rw [List.drop_length] at hQ
    exact ⟨_, rfl, hQ⟩
  · intro i hi ih hQ
    refine w197_2 ?_
    rw [Bl hi, geE hi]
    rw [List.drop_eq_getElem_cons hi, List.any_cons] at hQ
    refine ⟨inB hi, hf _ (List.getElem_mem hi) _ ⟨_, rfl, Bi.2 ⟨fun q => ?_, fun q => ?_⟩⟩⟩
    · rw [q] at hQ
      refine ⟨_, rfl, qc hQ ?_⟩
      rw [Bool.true_or, decide_eq_true (by omega)]
    · rw [q] at hQ
      rw [wra (by omega)]
      exact ih hQ
theorem containsExprs_ok {f : FuncId} {c : List Dat} {p : Dat → Bool} {x : Dat} (hx : Ha TT 24 x) (hf : ∀ y ∈ elO x, ∀ Q : Out → Glob → Prop, Q (.val (.d (.bool (p y)))) g → EvF TT f (y :: c) g Q) (hQ : Qf (.val (.d (.bool ((elO x).any p)))) g) : EvF TT 133 [x, .clo f c] g Qf := by
  have exl := len_le unE hx
  refine w133 hx (w199 hx ?_)
  refine lU (len := (elO x).length) (fun i => Qf (.val (.d (.bool (((elO x).drop i).any p)))) g → L199_2 x f c ((elO x).length : Int) (i : Int) g _) ?_ ?_ 0 (Nat.zero_le _) hQ
  · intro hQ
    refine w199_2 ?_
    rw [Bg]
    rw [List.drop_length] at hQ
    exact ⟨_, rfl, hQ⟩
  · intro i hi ih hQ
    refine w199_2 ?_
    rw [Bl hi, geE hi]
    rw [List.drop_eq_getElem_cons hi, List.any_cons] at hQ
    refine ⟨inB hi, hf _ (List.getElem_mem hi) _ ⟨_, rfl, Bi.2 ⟨fun q => ?_, fun q => ?_⟩⟩⟩
    · rw [q] at hQ
      refine ⟨_, rfl, qc hQ ?_⟩
      rw [Bool.true_or, decide_eq_true (by omega)]
    · rw [q] at hQ
      rw [wra (by omega)]
      exact ih hQ
theorem containsTypes_ok {f : FuncId} {c : List Dat} {p : Dat → Bool} {x : Dat} (hx : Ha TT 89 x) (hf : ∀ y ∈ elO x, ∀ Q : Out → Glob → Prop, Q (.val (.d (.bool (p y)))) g → EvF TT f (y :: c) g Q) (hQ : Qf (.val (.d (.bool ((elO x).any p)))) g) : EvF TT 137 [x, .clo f c] g Qf := by
  have exl := len_le uT hx
  refine w137 hx (w201 hx ?_)
  refine lU (len := (elO x).length) (fun i => Qf (.val (.d (.bool (((elO x).drop i).any p)))) g → L201_2 x f c ((elO x).length : Int) (i : Int) g _) ?_ ?_ 0 (Nat.zero_le _) hQ
  · intro hQ
    refine w201_2 ?_
    rw [Bg]
    rw [List.drop_length] at hQ
    exact ⟨_, rfl, hQ⟩
  · intro i hi ih hQ
    refine w201_2 ?_
    rw [Bl hi, geE hi]
    rw [List.drop_eq_getElem_cons hi, List.any_cons] at hQ
    refine ⟨inB hi, hf _ (List.getElem_mem hi) _ ⟨_, rfl, Bi.2 ⟨fun q => ?_, fun q => ?_⟩⟩⟩
    · rw [q] at hQ
      refine ⟨_, rfl, qc hQ ?_⟩
      rw [Bool.true_or, decide_eq_true (by omega)]
    · rw [q] at hQ
      rw [wra (by omega)]
      exact ih hQ
theorem containsDecls_ok {f : FuncId} {c : List Dat} {p : Dat → Bool} {x : Dat} (hx : Ha TT 23 x) (hf : ∀ y ∈ elO x, ∀ Q : Out → Glob → Prop, Q (.val (.d (.bool (p y)))) g → EvF TT f (y :: c) g Q) (hQ : Qf (.val (.d (.bool ((elO x).any p)))) g) : EvF TT 68 [x, .clo f c] g Qf := by
  have exl := len_le uD hx
  refine w68 hx (w135 hx ?_)
  refine lU (len := (elO x).length) (fun i => Qf (.val (.d (.bool (((elO x).drop i).any p)))) g → L135_2 x f c ((elO x).length : Int) (i : Int) g _) ?_ ?_ 0 (Nat.zero_le _) hQ
  · intro hQ
    refine w135_2 ?_
    rw [Bg]
    rw [List.drop_length] at hQ
    exact ⟨_, rfl, hQ⟩
  · intro i hi ih hQ
    refine w135_2 ?_
    rw [Bl hi, geE hi]
    rw [List.drop_eq_getElem_cons hi, List.any_cons] at hQ
    refine ⟨inB hi, hf _ (List.getElem_mem hi) _ ⟨_, rfl, Bi.2 ⟨fun q => ?_, fun q => ?_⟩⟩⟩
    · rw [q] at hQ
      refine ⟨_, rfl, qc hQ ?_⟩
      rw [Bool.true_or, decide_eq_true (by omega)]
    · rw [q] at hQ
      rw [wra (by omega)]
      exact ih hQ
end
end Go.Proofs.YtgmapdcdmomioaaGreatDoor.Pa
namespace Go.Proofs.YtgmapdcdmomioaaGreatDoor.Pa
open Go Go.Proofs.YtgmapdcdmomioaaGreatDoor.Am
def okTy1 (k : Int) (s : Str) (n : Int) (l : Int) : Bool :=
  (bif k == 1 then (s == []) && (l == 0) else bif k == 2 then wVar s && (l == 0) else bif k == 3 then (s == []) && (l == 2) else bif k == 4 then wLow s && !(s == [105, 110, 116]) else false) && (n == 0)
mutual
def okTy : Ty → Bool
  | .mk k s n a => okTy1 k s n a.length && okTys a
def okTys : List Ty → Bool
  | [] => true
  | x :: l => okTy x && okTys l
end
mutual
def vrTy : Ty → Bool
  | .mk _ s _ a => decide (s.length < 2 ^ 40) && vrTys a
def vrTys : List Ty → Bool
  | [] => true
  | x :: l => vrTy x && vrTys l
end
def okPt1 (k : Int) (s : Str) (n : Int) (l : Int) : Bool :=
  bif k == 1 then (s == []) && ((n == 0) && (l == 0)) else bif k == 2 then wLow s && ((n == 0) && (l == 0)) else bif k == 3 then (s == []) && (inI n && (l == 0)) else bif k == 4 then wUp s && (n == 0) else false
mutual
def okPt : Pt → Bool
  | .mk k s n a _ => okPt1 k s n a.length && okPts a
def okPts : List Pt → Bool
  | [] => true
  | x :: l => okPt x && okPts l
end
def le8 (n : Int) : Bool := decide (n ≤ 8)
def gt8 (n : Int) : Bool := decide (8 < n)
mutual
def nwPt : Pt → Bool
  | .mk _ _ _ a _ => le8 a.length && nwPts a
def nwPts : List Pt → Bool
  | [] => true
  | x :: l => nwPt x && nwPts l
end
mutual
def flPt : Pt → Bool
  | .mk k _ _ a _ => ((k == 4) && gt8 a.length) || flPts a
def flPts : List Pt → Bool
  | [] => false
  | x :: l => flPt x || flPts l
end
theorem okTys_any (xs : List Dat) : xs.any (fun y => !okTy (aT y)) = !okTys (xs.map aT) := by induction xs with
  | nil => rfl
  | cons x xs ih => simp [okTys, ih]
theorem okPts_any (xs : List Dat) : xs.any (fun y => !okPt (aP y)) = !okPts (xs.map aP) := by induction xs with
  | nil => rfl
  | cons x xs ih => simp [okPts, ih]
theorem nwPts_any (xs : List Dat) : xs.any (fun y => !nwPt (aP y)) = !nwPts (xs.map aP) := by induction xs with
  | nil => rfl
  | cons x xs ih => simp [nwPts, ih]
theorem vrTys_mem {l : List Ty} (h : vrTys l = true) : ∀ t ∈ l, vrTy t = true := by induction l with
  | nil => intro t ht; cases ht
  | cons x l ih =>
    simp only [vrTys, Bool.and_eq_true] at h
    intro t ht
    rcases List.mem_cons.1 ht with rfl | ht
    · exact h.1
    · exact ih h.2 t ht
theorem absTyA_len (x : Dat) : (abT x).length = (elO x).length := by rw [ay, List.length_map]
theorem absPtA_len (x : Dat) : (abt x).length = (elO x).length := by rw [aA, List.length_map]
theorem absExA_len (x : Dat) : (absExA x).length = (elO x).length := by rw [abE, List.length_map]
theorem typeOf_ok : ∀ (k : Nat) (x : Dat) (g : Glob), SizeOf.sizeOf x < k → Ha TT 94 x → vrTy (aT x) = true → ∀ (Qf : OGP), Qf (.val (.d (.bool (okTy (aT x))))) g → EvF TT 139 [x] g Qf
  | 0, x, g, hk, _, _ => by omega
  | k + 1, x, g, hk, hx, hv => by
    intro Qf hQ
    refine w139 hx ?_
    obtain ⟨k1, s1, v1, a1, rfl, hs1, t1⟩ := type_ty hx
    simp only [aT, okTy, absTyA_len] at hQ
    simp only [aT, vrTy, Bool.and_eq_true, decide_eq_true_eq] at hv
    have ex := t1.els uT
    have hc := sO (cs := [.int .i64 k1, .str s1, .int .i64 v1, a1]) (c := a1) (by simp)
    simp only [fld, nth, intOf, strOf]
    have tail : Qf (.val (.d (.bool (okTys (abT a1))))) g → EvF TT 137 [a1, .clo 202 []] g (KQ Qf fun v g' => ∃ b, v = Val.d (.bool b) ∧ Qf (.val (.d (.bool !b))) g') := fun h =>
      containsTypes_ok (p := fun y => !okTy (aT y)) t1 (fun y hy Q q => by
        obtain ⟨i, hi, rfl⟩ := List.getElem_of_mem hy
        have hsz := siz hi
        exact w202 (ex.2 _ hy) (typeOf_ok k _ g (by omega) (ex.2 _ hy) (vrTys_mem (by rw [ay] at hv; exact hv.2) _ (List.mem_map.2 ⟨_, hy, rfl⟩)) _ ⟨_, rfl, q⟩)) ⟨_, rfl, qc h (by rw [okTys_any, Bool.not_not, ay])⟩
    repeat' (first
      | refine Bi.2 ⟨fun q => ?_, fun q => ?_⟩
      | refine wordVar_ok hv.1 ⟨_, rfl, ?_⟩
      | refine wL hs1 ⟨_, rfl, ?_⟩
      | refine tail ?_)
    all_goals (refine qc hQ ?_; simp_all [okTy1])
theorem patOf_ok : ∀ (k : Nat) (x : Dat) (g : Glob), SizeOf.sizeOf x < k → Ha TT 127 x → ∀ (Qf : OGP), Qf (.val (.d (.bool (okPt (aP x))))) g → EvF TT 132 [x] g Qf
  | 0, x, g, hk, _ => by omega
  | k + 1, x, g, hk, hx => by
    intro Qf hQ
    refine w132 hx ?_
    obtain ⟨k1, s1, v1, a1, p1, rfl, hs1, t1⟩ := pat_ty hx
    simp only [aP, okPt, absPtA_len] at hQ
    have ex := t1.els uP
    have hc := sO (cs := [.int .i64 k1, .str s1, .int .i64 v1, a1, .int .i64 p1]) (c := a1) (by simp)
    simp only [fld, nth, intOf, strOf]
    have tail : Qf (.val (.d (.bool (okPts (abt a1))))) g → EvF TT 130 [a1, .clo 198 []] g (KQ Qf fun v g' => ∃ b, v = Val.d (.bool b) ∧ Qf (.val (.d (.bool !b))) g') := fun h =>
      coa (p := fun y => !okPt (aP y)) t1 (fun y hy Q q => by
        obtain ⟨i, hi, rfl⟩ := List.getElem_of_mem hy
        have hsz := siz hi
        exact w198 (ex.2 _ hy) (patOf_ok k _ g (by omega) (ex.2 _ hy) _ ⟨_, rfl, q⟩)) ⟨_, rfl, qc h (by rw [okPts_any, Bool.not_not, aA])⟩
    repeat' (first
      | refine Bi.2 ⟨fun q => ?_, fun q => ?_⟩
      | refine wL hs1 ⟨_, rfl, ?_⟩
      | refine wordUp_ok hs1 ⟨_, rfl, ?_⟩
      | refine intsIn_ok ⟨_, rfl, ?_⟩
      | refine tail ?_)
    all_goals (refine qc hQ ?_; simp_all [okPt1])
theorem patNarrow_ok : ∀ (k : Nat) (x : Dat) (g : Glob), SizeOf.sizeOf x < k → Ha TT 127 x → ∀ (Qf : OGP), Qf (.val (.d (.bool (nwPt (aP x))))) g → EvF TT 184 [x] g Qf
  | 0, x, g, hk, _ => by omega
  | k + 1, x, g, hk, hx => by
    intro Qf hQ
    refine w184 hx ?_
    obtain ⟨k1, s1, v1, a1, p1, rfl, hs1, t1⟩ := pat_ty hx
    simp only [aP, nwPt, absPtA_len] at hQ
    have ex := t1.els uP
    have hc := sO (cs := [.int .i64 k1, .str s1, .int .i64 v1, a1, .int .i64 p1]) (c := a1) (by simp)
    simp only [fld, nth, intOf, strOf]
    refine Bi.2 ⟨fun q => ?_, fun q => ?_⟩
    · rw [show le8 _ = true from q, Bool.true_and] at hQ
      exact coa (p := fun y => !nwPt (aP y)) t1 (fun y hy Q q => by
        obtain ⟨i, hi, rfl⟩ := List.getElem_of_mem hy
        have hsz := siz hi
        exact w215 (ex.2 _ hy) (patNarrow_ok k _ g (by omega) (ex.2 _ hy) _ ⟨_, rfl, q⟩)) ⟨_, rfl, qc hQ (by rw [nwPts_any, Bool.not_not, aA])⟩
    · rw [show le8 _ = false from q, Bool.false_and] at hQ
      exact hQ
theorem okPt_arg {k : Int} {s : Str} {n : Int} {a : List Pt} {p : Int} (h : okPt1 k s n a.length = true) : k = 4 ∨ a = [] := by
  unfold okPt1 at h
  by_cases h4 : k = 4
  · exact .inl h4
  · refine .inr (List.eq_nil_of_length_eq_zero ?_)
    rw [show (k == 4) = false by simpa using h4] at h
    cases h1 : (k == 1) <;> cases h2 : (k == 2) <;> cases h3 : (k == 3) <;> rw [h1, h2, h3] at h <;> simp at h <;> simp [h]
mutual
theorem nw_fl : ∀ x : Pt, okPt x = true → nwPt x = !flPt x
  | .mk k s n a p => fun h => by
    simp only [okPt, Bool.and_eq_true] at h
    have ih := nws_fls a h.2
    simp only [nwPt, flPt, ih]
    rcases okPt_arg (p := p) h.1 with rfl | rfl
    · rw [show (((4 : Int) == 4)) = true from rfl, Bool.true_and, Bool.not_or]
      congr 1
      unfold le8 gt8
      by_cases hl : (a.length : Int) ≤ 8
      · rw [decide_eq_true hl, decide_eq_false (by omega)]; rfl
      · rw [decide_eq_false hl, decide_eq_true (by omega)]; rfl
    · simp [flPts, le8, gt8]
theorem nws_fls : ∀ l : List Pt, okPts l = true → nwPts l = !flPts l
  | [] => fun _ => rfl
  | x :: l => fun h => by
    simp only [okPts, Bool.and_eq_true] at h
    simp only [nwPts, flPts, nw_fl x h.1, nws_fls l h.2, Bool.not_or]
end
end Go.Proofs.YtgmapdcdmomioaaGreatDoor.Pa
namespace Go.Proofs.YtgmapdcdmomioaaGreatDoor.Pa
open Go Go.Proofs.YtgmapdcdmomioaaGreatDoor.Am
def pos0 (n : Int) : Bool := decide (0 < n)
def okEx1 (k : Int) (s r : Str) (n la lb : Int) : Bool :=
  bif (!(k == 6) && !(r == [])) || ((!(k == 2) && !(n == 0)) || (!(k == 7) && pos0 lb)) then false
  else bif k == 1 then wLow s && (la == 0) else bif k == 2 then (s == []) && (inI n && (la == 0)) else bif k == 3 then wLow s && (la == 1) else bif k == 4 then (s == []) && (la == 2)
  else bif k == 5 then wLow s && (la == 2) else bif k == 6 then wLow s && (wLow r && (la == 2)) else bif k == 7 then (s == []) && (pos0 lb && (la == lb + 1)) else bif k == 8 then wUp s
  else bif k == 9 then pos0 (opN s) && (la == 2) else bif k == 10 then (s == []) && (la == 1) else false
def namedP (k : Int) (s r : Str) (n lb : Int) : Bool :=
  bif k == 1 then wLow s else bif k == 3 then wLow s else bif k == 5 then wLow s else bif k == 6 then wLow s && wLow r else bif k == 2 then inI n else bif k == 7 then pos0 lb else bif k == 8 then wUp s else bif k == 9 then pos0 (opN s) else true
mutual
def okEx : Ex' → Bool
  | .mk k s r n a b _ => okEx1 k s r n a.length b.length && (okPts b && okExs a)
def okExs : List Ex' → Bool
  | [] => true
  | x :: l => okEx x && okExs l
end
mutual
def nwEx : Ex' → Bool
  | .mk k _ _ _ a b _ => !((k == 8) && gt8 a.length) && (nwPts b && nwExs a)
def nwExs : List Ex' → Bool
  | [] => true
  | x :: l => nwEx x && nwExs l
end
mutual
def flEx : Ex' → Bool
  | .mk k _ _ _ a b _ => ((k == 8) && gt8 a.length) || (flPts b || flExs a)
def flExs : List Ex' → Bool
  | [] => false
  | x :: l => flEx x || flExs l
end
theorem okExs_any (xs : List Dat) : xs.any (fun y => !okEx (ax y)) = !okExs (xs.map ax) := by induction xs with
  | nil => rfl
  | cons x xs ih => simp [okExs, ih]
theorem nwExs_any (xs : List Dat) : xs.any (fun y => !nwEx (ax y)) = !nwExs (xs.map ax) := by induction xs with
  | nil => rfl
  | cons x xs ih => simp [nwExs, ih]
theorem opN_nonneg (s : Str) : 0 ≤ opN s := by
  have : ∀ (l : List Str) (i : Int), 0 ≤ i → 0 ≤ ixF s l i := by
    intro l
    induction l with
    | nil => intro i _; exact Int.le_refl _
    | cons x l ih =>
      intro i hi
      simp only [ixF]
      cases (x == s)
      · exact ih _ (by omega)
      · exact hi
  exact this _ _ (by omega)
theorem opN_ne (s : Str) : (opN s != 0) = pos0 (opN s) := by
  have := opN_nonneg s
  unfold pos0
  rw [Bool.eq_iff_iff, bne_iff_ne, decide_eq_true_eq]
  omega
theorem named_ok (x : Dat) (g : Glob) (k1 v1 p1 : Int) (s1 r1 : Str) (a1 b1 : Dat) (hx : x = .agg [.int .i64 k1, .str s1, .str r1, .int .i64 v1, a1, b1, .int .i64 p1]) (ht : Ha TT 27 x) (hs1 : s1.length ≤ 2 ^ 40) (hr1 : r1.length ≤ 2 ^ 40) (Qf : OGP) (hQ : Qf (.val (.d (.bool (namedP k1 s1 r1 v1 ((elO b1).length : Int))))) g) : EvF TT 129 [x] g Qf := by
  refine w129 ht ?_
  subst hx
  simp only [fld, nth, intOf, strOf]
  repeat' (first
    | refine Bi.2 ⟨fun q => ?_, fun q => ?_⟩
    | refine wL hs1 ⟨_, rfl, ?_⟩
    | refine wL hr1 ⟨_, rfl, ?_⟩
    | refine wordUp_ok hs1 ⟨_, rfl, ?_⟩
    | refine intsIn_ok ⟨_, rfl, ?_⟩
    | refine intsOp_ok hs1 ⟨_, rfl, ?_⟩)
  all_goals (refine qc hQ ?_; simp_all [namedP, opN_ne]; try (simp [pos0]))
theorem exprOf_ok : ∀ (k : Nat) (x : Dat) (g : Glob), SizeOf.sizeOf x < k → Ha TT 27 x → ∀ (Qf : OGP), Qf (.val (.d (.bool (okEx (ax x))))) g → EvF TT 67 [x] g Qf
  | 0, x, g, hk, _ => by omega
  | k + 1, x, g, hk, hx => by
    intro Qf hQ
    refine w67 hx ?_
    obtain ⟨k1, s1, r1, v1, a1, b1, p1, rfl, hs1, hr1, t1, u1⟩ := exr hx
    simp only [ax, okEx, absExA_len, absPtA_len] at hQ
    have ex := t1.els unE
    have exl := ex.1.1
    have eu := u1.els uP
    have eul := eu.1.1
    have hc := sO (cs := [.int .i64 k1, .str s1, .str r1, .int .i64 v1, a1, b1, .int .i64 p1]) (c := a1) (by simp)
    have hw : IntKind.i64.wrap (((elO b1).length : Int) + 1) = ((elO b1).length : Int) + 1 := wrp (by omega) (by omega)
    have hl0 : ((([] : List Dat).length : Nat) : Int) = 0 := rfl
    have tail : (namedP k1 s1 r1 v1 ((elO b1).length : Int) = true → Qf (.val (.d (.bool (okPts (abt b1) && okExs (absExA a1))))) g) → (namedP k1 s1 r1 v1 ((elO b1).length : Int) = false → Qf (.val (.d (.bool false))) g) →
        EvF TT 129 [.agg [.int .i64 k1, .str s1, .str r1, .int .i64 v1, a1, b1, .int .i64 p1]] g (KQ Qf fun v g' => ∃ b, v = Val.d (.bool b) ∧ Br (!b) (Qf (.val (.d (.bool false))) g') (EvF TT 130 [b1, .clo 131 []] g' (KQ Qf fun v g' => ∃ b, v = Val.d (.bool b) ∧ Br (!b) (EvF TT 133 [a1, .clo 134 []] g' (KQ Qf fun v g' => ∃ b, v = Val.d (.bool b) ∧ Qf (.val (.d (.bool !b))) g')) (Qf (.val (.d (.bool false))) g')))) := by
      intro h1 h2
      refine named_ok _ g k1 v1 p1 s1 r1 a1 b1 rfl hx hs1 hr1 _ ⟨_, rfl, Bi.2 ⟨fun q => h2 (by simpa using q), fun q => ?_⟩⟩
      have h1 := h1 (by simpa using q)
      refine coa (p := fun y => !okPt (aP y)) u1 (fun y hy Q q => w131 (eu.2 _ hy) (patOf_ok _ y g (Nat.lt_succ_self _) (eu.2 _ hy) _ ⟨_, rfl, q⟩)) ⟨_, rfl, ?_⟩
      rw [okPts_any, Bool.not_not, ← aA]
      refine Bi.2 ⟨fun q => ?_, fun q => ?_⟩
      · rw [q, Bool.true_and] at h1
        exact containsExprs_ok (p := fun y => !okEx (ax y)) t1 (fun y hy Q q => by
          obtain ⟨i, hi, rfl⟩ := List.getElem_of_mem hy
          have hsz := siz hi
          exact w134 (ex.2 _ hy) (exprOf_ok k _ g (by omega) (ex.2 _ hy) _ ⟨_, rfl, q⟩)) ⟨_, rfl, qc h1 (by rw [okExs_any, Bool.not_not, abE])⟩
      · rw [q, Bool.false_and] at h1
        exact h1
    have hla : ∀ n : Int, n = ((elO a1).length : Int) → ¬ n = -1 := fun n h => by omega
    have hlb : ((elO b1).length : Int) = 0 ∨ 0 < ((elO b1).length : Int) := by omega
    simp only [fld, nth, intOf, strOf, hw, hl0]
    generalize hA : ((elO a1).length : Int) = A at *
    generalize hB : ((elO b1).length : Int) = B at *
    have hA0 := hla A rfl
    clear hla hA hB hw hl0 exl eul
    repeat' (first
      | refine Bi.2 ⟨fun q => ?_, fun q => ?_⟩
      | refine tail (fun h => ?_) (fun h => ?_))
    all_goals (clear tail; refine qc hQ ?_; clear hQ)
    all_goals (rcases hlb with rfl | hlb)
    all_goals first
      | (simp_all [okEx1, namedP, pos0]; done)
      | (simp_all [okEx1, namedP, pos0]; intro h'; omega)
theorem narrow_ok : ∀ (k : Nat) (x : Dat) (g : Glob), SizeOf.sizeOf x < k → Ha TT 27 x → ∀ (Qf : OGP), Qf (.val (.d (.bool (nwEx (ax x))))) g → EvF TT 103 [x] g Qf
  | 0, x, g, hk, _ => by omega
  | k + 1, x, g, hk, hx => by
    intro Qf hQ
    refine w103 hx ?_
    obtain ⟨k1, s1, r1, v1, a1, b1, p1, rfl, hs1, hr1, t1, u1⟩ := exr hx
    simp only [ax, nwEx, absExA_len, absPtA_len] at hQ
    have ex := t1.els unE
    have eu := u1.els uP
    have hc := sO (cs := [.int .i64 k1, .str s1, .str r1, .int .i64 v1, a1, b1, .int .i64 p1]) (c := a1) (by simp)
    simp only [fld, nth, intOf, strOf]
    have tail : Qf (.val (.d (.bool (nwPts (abt b1) && nwExs (absExA a1))))) g → EvF TT 130 [b1, .clo 183 []] g (KQ Qf fun v g' => ∃ b, v = Val.d (.bool b) ∧ Br (!b) (EvF TT 133 [a1, .clo 185 []] g' (KQ Qf fun v g' => ∃ b, v = Val.d (.bool b) ∧ Qf (.val (.d (.bool !b))) g')) (Qf (.val (.d (.bool false))) g')) := by
      intro h1
      refine coa (p := fun y => !nwPt (aP y)) u1 (fun y hy Q q => w183 (eu.2 _ hy) (patNarrow_ok _ y g (Nat.lt_succ_self _) (eu.2 _ hy) _ ⟨_, rfl, q⟩)) ⟨_, rfl, ?_⟩
      rw [nwPts_any, Bool.not_not, ← aA]
      refine Bi.2 ⟨fun q => ?_, fun q => ?_⟩
      · rw [q, Bool.true_and] at h1
        exact containsExprs_ok (p := fun y => !nwEx (ax y)) t1 (fun y hy Q q => by
          obtain ⟨i, hi, rfl⟩ := List.getElem_of_mem hy
          have hsz := siz hi
          exact w185 (ex.2 _ hy) (narrow_ok k _ g (by omega) (ex.2 _ hy) _ ⟨_, rfl, q⟩)) ⟨_, rfl, qc h1 (by rw [nwExs_any, Bool.not_not, abE])⟩
      · rw [q, Bool.false_and] at h1
        exact h1
    refine Bi.2 ⟨fun q => Bi.2 ⟨fun q' => ?_, fun q' => ?_⟩, fun q => ?_⟩
    · rw [q, show gt8 _ = true from q'] at hQ; exact hQ
    · rw [q, show gt8 _ = false from q'] at hQ; exact tail hQ
    · rw [q] at hQ; exact tail hQ
mutual
theorem nw_flEx : ∀ x : Ex', okEx x = true → nwEx x = !flEx x
  | .mk k s r n a b p => fun h => by
    simp only [okEx, Bool.and_eq_true] at h
    simp only [nwEx, flEx, nws_fls b h.2.1, nws_flsEx a h.2.2, Bool.not_or]
theorem nws_flsEx : ∀ l : List Ex', okExs l = true → nwExs l = !flExs l
  | [] => fun _ => rfl
  | x :: l => fun h => by
    simp only [okExs, Bool.and_eq_true] at h
    simp only [nwExs, flExs, nw_flEx x h.1, nws_flsEx l h.2, Bool.not_or]
end
end Go.Proofs.YtgmapdcdmomioaaGreatDoor.Pa
