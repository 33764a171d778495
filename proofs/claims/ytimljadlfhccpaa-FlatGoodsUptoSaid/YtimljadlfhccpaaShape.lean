/- What a term's kind has: the document's own test. -/
import Derived.Test.YtimljadlfhccpaaProg
import Derived.Test.YtimljadlfhccpaaMA
set_option linter.all false
set_option linter.all false
set_option linter.all false
namespace Go.Proofs.Ytimljadlfhccpaa
open Go.RowKit
set_option maxHeartbeats 1000000

theorem binds22 (k : Int) (w : World) : Calls Try.prog 58 #[.int .i64 k] w fun e w' => e = .returned (.bool (bindsB k)) ∧ w = w' := by
  go_enter Try.func58, Try.ntmps58
  go_wp2_with fail
  all_goals go_ret
  all_goals exact ⟨congrArg (fun x => Ending.returned (.bool x)) (by simp_all [bindsB]), rfl⟩
theorem binds25 {m : Mp} {c : List Value} {t : Term} (hr : RTerm m c t) (w : World) :
    Calls Try.prog 44 #[.agg c.toArray] w fun e w' => e = .returned (.bool (bindsB t.kind)) ∧ Below w.heap.size w w' := by
  obtain ⟨tb, tc, ab, ac, fb, fc, nb, nc, rfl⟩ := hr.shape
  clear hr
  go_enter Try.func44, Try.ntmps44
  go_wp2_with fail
  all_goals go_ret
  all_goals exact ⟨congrArg (fun x => Ending.returned (.bool x)) (by simp_all [bindsB]), below_box _ _⟩
def shapeB (t : Term) : Bool :=
  if (!bindsB t.kind && t.x != 0) || (t.kind != 4 && decide (0 < t.funs.length)) || (t.kind != 6 && (t.ints || decide (0 < t.tags.length))) then false else
  if t.kind = 1 then t.args.length == 2 && t.next.length == 1 && decide (1 ≤ t.n) && decide (t.n ≤ 7) else
  if t.kind = 2 then decide (t.args.length ≤ 8) && t.next.length == 1 && decide (0 ≤ t.n) && decide (t.n < 32) else
  if t.kind = 3 then t.args.length == 1 && t.next.length == 1 && decide (0 ≤ t.n) && decide (t.n < 8) else
  if t.kind = 9 then decide (t.args.length ≤ 64) && t.next.length == 1 && decide (0 ≤ t.n) else
  if t.kind = 10 then t.args.length == 1 && t.next.length == 1 && decide (0 ≤ t.n) && decide (t.n < 64) else
  if t.n = 0 then
    if t.kind = 4 then t.args.length == 0 && t.next.length == 1 && decide (0 < t.funs.length) else
    if t.kind = 5 then decide (1 ≤ t.args.length) && decide (t.args.length ≤ 17) && t.next.length == 0 else
    if t.kind = 6 then t.args.length == 1 && decide (1 ≤ t.next.length) && (t.next.length == t.tags.length || t.next.length == t.tags.length + 1) && tagsB t.tags t.ints else
    if t.kind = 7 then t.args.length == 1 && t.next.length == 1 else
    if t.kind = 8 then t.args.length == 1 && t.next.length == 0 else false
  else false
theorem shapeB_1 {t : Term} (h : t.kind = 1) : shapeB t = decide (t.funs = [] ∧ t.ints = false ∧ t.tags = [] ∧ t.args.length = 2 ∧ t.next.length = 1 ∧ 1 ≤ t.n ∧ t.n ≤ 7) := by
  rw [Bool.eq_iff_iff, decide_eq_true_iff]
  by_cases hf : t.funs = [] <;> by_cases hg : t.tags = [] <;> cases hi : t.ints <;> by_cases hx : t.x = 0 <;> by_cases hn : t.n = 0 <;> simp [shapeB, bindsB, h, hf, hg, hi, hx, hn, and_assoc, List.length_pos_iff]
theorem shapeB_2 {t : Term} (h : t.kind = 2) : shapeB t = decide (t.funs = [] ∧ t.ints = false ∧ t.tags = [] ∧ t.args.length ≤ 8 ∧ t.next.length = 1 ∧ 0 ≤ t.n ∧ t.n < 32) := by
  rw [Bool.eq_iff_iff, decide_eq_true_iff]
  by_cases hf : t.funs = [] <;> by_cases hg : t.tags = [] <;> cases hi : t.ints <;> by_cases hx : t.x = 0 <;> by_cases hn : t.n = 0 <;> simp [shapeB, bindsB, h, hf, hg, hi, hx, hn, and_assoc, List.length_pos_iff]
theorem shapeB_3 {t : Term} (h : t.kind = 3) : shapeB t = decide (t.funs = [] ∧ t.ints = false ∧ t.tags = [] ∧ t.args.length = 1 ∧ t.next.length = 1 ∧ 0 ≤ t.n ∧ t.n < 8) := by
  rw [Bool.eq_iff_iff, decide_eq_true_iff]
  by_cases hf : t.funs = [] <;> by_cases hg : t.tags = [] <;> cases hi : t.ints <;> by_cases hx : t.x = 0 <;> by_cases hn : t.n = 0 <;> simp [shapeB, bindsB, h, hf, hg, hi, hx, hn, and_assoc, List.length_pos_iff]
theorem shapeB_9 {t : Term} (h : t.kind = 9) : shapeB t = decide (t.funs = [] ∧ t.ints = false ∧ t.tags = [] ∧ t.args.length ≤ 64 ∧ t.next.length = 1 ∧ 0 ≤ t.n) := by
  rw [Bool.eq_iff_iff, decide_eq_true_iff]
  by_cases hf : t.funs = [] <;> by_cases hg : t.tags = [] <;> cases hi : t.ints <;> by_cases hx : t.x = 0 <;> by_cases hn : t.n = 0 <;> simp [shapeB, bindsB, h, hf, hg, hi, hx, hn, and_assoc, List.length_pos_iff]
theorem shapeB_10 {t : Term} (h : t.kind = 10) : shapeB t = decide (t.funs = [] ∧ t.ints = false ∧ t.tags = [] ∧ t.args.length = 1 ∧ t.next.length = 1 ∧ 0 ≤ t.n ∧ t.n < 64) := by
  rw [Bool.eq_iff_iff, decide_eq_true_iff]
  by_cases hf : t.funs = [] <;> by_cases hg : t.tags = [] <;> cases hi : t.ints <;> by_cases hx : t.x = 0 <;> by_cases hn : t.n = 0 <;> simp [shapeB, bindsB, h, hf, hg, hi, hx, hn, and_assoc, List.length_pos_iff]
theorem shapeB_4 {t : Term} (h : t.kind = 4) : shapeB t = decide (t.x = 0 ∧ t.ints = false ∧ t.tags = [] ∧ t.n = 0 ∧ t.args.length = 0 ∧ t.next.length = 1 ∧ 0 < t.funs.length) := by
  rw [Bool.eq_iff_iff, decide_eq_true_iff]
  by_cases hf : t.funs = [] <;> by_cases hg : t.tags = [] <;> cases hi : t.ints <;> by_cases hx : t.x = 0 <;> by_cases hn : t.n = 0 <;> simp [shapeB, bindsB, h, hf, hg, hi, hx, hn, and_assoc, List.length_pos_iff]
theorem shapeB_5 {t : Term} (h : t.kind = 5) : shapeB t = decide (t.x = 0 ∧ t.funs = [] ∧ t.ints = false ∧ t.tags = [] ∧ t.n = 0 ∧ 1 ≤ t.args.length ∧ t.args.length ≤ 17 ∧ t.next.length = 0) := by
  rw [Bool.eq_iff_iff, decide_eq_true_iff]
  by_cases hf : t.funs = [] <;> by_cases hg : t.tags = [] <;> cases hi : t.ints <;> by_cases hx : t.x = 0 <;> by_cases hn : t.n = 0 <;> simp [shapeB, bindsB, h, hf, hg, hi, hx, hn, and_assoc, List.length_pos_iff]
theorem shapeB_6 {t : Term} (h : t.kind = 6) : shapeB t = decide (t.x = 0 ∧ t.funs = [] ∧ t.n = 0 ∧ t.args.length = 1 ∧ 1 ≤ t.next.length ∧ (t.next.length = t.tags.length ∨ t.next.length = t.tags.length + 1) ∧ tagsB t.tags t.ints = true) := by
  rw [Bool.eq_iff_iff, decide_eq_true_iff]
  by_cases hf : t.funs = [] <;> by_cases hg : t.tags = [] <;> cases hi : t.ints <;> by_cases hx : t.x = 0 <;> by_cases hn : t.n = 0 <;> simp [shapeB, bindsB, h, hf, hg, hi, hx, hn, and_assoc, List.length_pos_iff]
theorem shapeB_7 {t : Term} (h : t.kind = 7) : shapeB t = decide (t.x = 0 ∧ t.funs = [] ∧ t.ints = false ∧ t.tags = [] ∧ t.n = 0 ∧ t.args.length = 1 ∧ t.next.length = 1) := by
  rw [Bool.eq_iff_iff, decide_eq_true_iff]
  by_cases hf : t.funs = [] <;> by_cases hg : t.tags = [] <;> cases hi : t.ints <;> by_cases hx : t.x = 0 <;> by_cases hn : t.n = 0 <;> simp [shapeB, bindsB, h, hf, hg, hi, hx, hn, and_assoc, List.length_pos_iff]
theorem shapeB_8 {t : Term} (h : t.kind = 8) : shapeB t = decide (t.x = 0 ∧ t.funs = [] ∧ t.ints = false ∧ t.tags = [] ∧ t.n = 0 ∧ t.args.length = 1 ∧ t.next.length = 0) := by
  rw [Bool.eq_iff_iff, decide_eq_true_iff]
  by_cases hf : t.funs = [] <;> by_cases hg : t.tags = [] <;> cases hi : t.ints <;> by_cases hx : t.x = 0 <;> by_cases hn : t.n = 0 <;> simp [shapeB, bindsB, h, hf, hg, hi, hx, hn, and_assoc, List.length_pos_iff]
set_option maxRecDepth 100000 in
theorem shape_1 {m : Mp} {t : Term} {tb tcap ab acap fb fcap nb ncap} (O : Opn m t tb tcap ab acap fb fcap nb ncap) (k1 : t.kind = 1) (w : World) (hm : Ag m w) :
    Calls Try.prog 42 #[.agg #[.int .i64 t.kind, .int .i64 t.x, .int .i64 t.n, .bool t.ints, .slice tb t.tags.length tcap, .slice ab t.args.length acap, .slice fb t.funs.length fcap, .slice nb t.next.length ncap]] w fun e w' => e = .returned (.bool (shapeB t)) ∧ Below w.heap.size w w' := by
  have HM := Lib.hid (fun o => hm.later (below_box w o))
  have HT := Lib.hid O.tags
  have t2 := O.tags.len
  have a2 := O.args.len
  have f2 := O.fbd
  have n2 := O.nbd
  have K := Lib.hid k1
  have hb : bindsB 1 = true := rfl
  clear hm O
  by_cases hF : t.funs = []
  rotate_left
  · have hF' : 0 < t.funs.length := List.length_pos_iff.2 hF
    go_enter Try.func42, Try.ntmps42
    go_wp2_with fail
    go_quiet (fail)
    go_wp2_with (go_at_call 58; refine (binds22 _ _).mono ?_; rintro e w1 ⟨rfl, rfl⟩)
    all_goals go_ret
    all_goals exact ⟨congrArg (fun x => Ending.returned (.bool x)) (by rw [shapeB_1 K.out, Bool.eq_iff_iff]; simp_all <;> omega), by first | exact below_box _ _ | exact below_drewN (below_box _ _) _ | exact below_drewN (below_drewN (below_box _ _) _) _⟩
  cases hI : t.ints with
  | true =>
    go_enter Try.func42, Try.ntmps42
    go_wp2_with fail
    go_quiet (fail)
    go_wp2_with (go_at_call 58; refine (binds22 _ _).mono ?_; rintro e w1 ⟨rfl, rfl⟩)
    all_goals go_ret
    all_goals exact ⟨congrArg (fun x => Ending.returned (.bool x)) (by rw [shapeB_1 K.out, Bool.eq_iff_iff]; simp_all <;> omega), by first | exact below_box _ _ | exact below_drewN (below_box _ _) _ | exact below_drewN (below_drewN (below_box _ _) _) _⟩
  | false =>
    by_cases hT : t.tags = []
    rotate_left
    · have hT' : 0 < t.tags.length := List.length_pos_iff.2 hT
      go_enter Try.func42, Try.ntmps42
      go_wp2_with fail
      go_quiet (fail)
      go_wp2_with (go_at_call 58; refine (binds22 _ _).mono ?_; rintro e w1 ⟨rfl, rfl⟩)
      all_goals go_ret
      all_goals exact ⟨congrArg (fun x => Ending.returned (.bool x)) (by rw [shapeB_1 K.out, Bool.eq_iff_iff]; simp_all <;> omega), by first | exact below_box _ _ | exact below_drewN (below_box _ _) _ | exact below_drewN (below_drewN (below_box _ _) _) _⟩
    go_enter Try.func42, Try.ntmps42
    go_wp2_with fail
    go_quiet (fail)
    go_wp2_with (go_at_call 58; refine (binds22 _ _).mono ?_; rintro e w1 ⟨rfl, rfl⟩)
    all_goals go_ret
    all_goals exact ⟨congrArg (fun x => Ending.returned (.bool x)) (by rw [shapeB_1 K.out, Bool.eq_iff_iff]; simp_all <;> omega), by first | exact below_box _ _ | exact below_drewN (below_box _ _) _ | exact below_drewN (below_drewN (below_box _ _) _) _⟩
set_option maxRecDepth 100000 in
theorem shape_2 {m : Mp} {t : Term} {tb tcap ab acap fb fcap nb ncap} (O : Opn m t tb tcap ab acap fb fcap nb ncap) (k2 : t.kind = 2) (w : World) (hm : Ag m w) :
    Calls Try.prog 42 #[.agg #[.int .i64 t.kind, .int .i64 t.x, .int .i64 t.n, .bool t.ints, .slice tb t.tags.length tcap, .slice ab t.args.length acap, .slice fb t.funs.length fcap, .slice nb t.next.length ncap]] w fun e w' => e = .returned (.bool (shapeB t)) ∧ Below w.heap.size w w' := by
  have HM := Lib.hid (fun o => hm.later (below_box w o))
  have HT := Lib.hid O.tags
  have t2 := O.tags.len
  have a2 := O.args.len
  have f2 := O.fbd
  have n2 := O.nbd
  have K := Lib.hid k2
  have hb : bindsB 2 = true := rfl
  clear hm O
  by_cases hF : t.funs = []
  rotate_left
  · have hF' : 0 < t.funs.length := List.length_pos_iff.2 hF
    go_enter Try.func42, Try.ntmps42
    go_wp2_with fail
    go_quiet (fail)
    go_wp2_with (go_at_call 58; refine (binds22 _ _).mono ?_; rintro e w1 ⟨rfl, rfl⟩)
    all_goals go_ret
    all_goals exact ⟨congrArg (fun x => Ending.returned (.bool x)) (by rw [shapeB_2 K.out, Bool.eq_iff_iff]; simp_all <;> omega), by first | exact below_box _ _ | exact below_drewN (below_box _ _) _ | exact below_drewN (below_drewN (below_box _ _) _) _⟩
  cases hI : t.ints with
  | true =>
    go_enter Try.func42, Try.ntmps42
    go_wp2_with fail
    go_quiet (fail)
    go_wp2_with (go_at_call 58; refine (binds22 _ _).mono ?_; rintro e w1 ⟨rfl, rfl⟩)
    all_goals go_ret
    all_goals exact ⟨congrArg (fun x => Ending.returned (.bool x)) (by rw [shapeB_2 K.out, Bool.eq_iff_iff]; simp_all <;> omega), by first | exact below_box _ _ | exact below_drewN (below_box _ _) _ | exact below_drewN (below_drewN (below_box _ _) _) _⟩
  | false =>
    by_cases hT : t.tags = []
    rotate_left
    · have hT' : 0 < t.tags.length := List.length_pos_iff.2 hT
      go_enter Try.func42, Try.ntmps42
      go_wp2_with fail
      go_quiet (fail)
      go_wp2_with (go_at_call 58; refine (binds22 _ _).mono ?_; rintro e w1 ⟨rfl, rfl⟩)
      all_goals go_ret
      all_goals exact ⟨congrArg (fun x => Ending.returned (.bool x)) (by rw [shapeB_2 K.out, Bool.eq_iff_iff]; simp_all <;> omega), by first | exact below_box _ _ | exact below_drewN (below_box _ _) _ | exact below_drewN (below_drewN (below_box _ _) _) _⟩
    go_enter Try.func42, Try.ntmps42
    go_wp2_with fail
    go_quiet (fail)
    go_wp2_with (go_at_call 58; refine (binds22 _ _).mono ?_; rintro e w1 ⟨rfl, rfl⟩)
    all_goals go_ret
    all_goals exact ⟨congrArg (fun x => Ending.returned (.bool x)) (by rw [shapeB_2 K.out, Bool.eq_iff_iff]; simp_all <;> omega), by first | exact below_box _ _ | exact below_drewN (below_box _ _) _ | exact below_drewN (below_drewN (below_box _ _) _) _⟩
set_option maxRecDepth 100000 in
theorem shape_3 {m : Mp} {t : Term} {tb tcap ab acap fb fcap nb ncap} (O : Opn m t tb tcap ab acap fb fcap nb ncap) (k3 : t.kind = 3) (w : World) (hm : Ag m w) :
    Calls Try.prog 42 #[.agg #[.int .i64 t.kind, .int .i64 t.x, .int .i64 t.n, .bool t.ints, .slice tb t.tags.length tcap, .slice ab t.args.length acap, .slice fb t.funs.length fcap, .slice nb t.next.length ncap]] w fun e w' => e = .returned (.bool (shapeB t)) ∧ Below w.heap.size w w' := by
  have HM := Lib.hid (fun o => hm.later (below_box w o))
  have HT := Lib.hid O.tags
  have t2 := O.tags.len
  have a2 := O.args.len
  have f2 := O.fbd
  have n2 := O.nbd
  have K := Lib.hid k3
  have hb : bindsB 3 = true := rfl
  clear hm O
  by_cases hF : t.funs = []
  rotate_left
  · have hF' : 0 < t.funs.length := List.length_pos_iff.2 hF
    go_enter Try.func42, Try.ntmps42
    go_wp2_with fail
    go_quiet (fail)
    go_wp2_with (go_at_call 58; refine (binds22 _ _).mono ?_; rintro e w1 ⟨rfl, rfl⟩)
    all_goals go_ret
    all_goals exact ⟨congrArg (fun x => Ending.returned (.bool x)) (by rw [shapeB_3 K.out, Bool.eq_iff_iff]; simp_all <;> omega), by first | exact below_box _ _ | exact below_drewN (below_box _ _) _ | exact below_drewN (below_drewN (below_box _ _) _) _⟩
  cases hI : t.ints with
  | true =>
    go_enter Try.func42, Try.ntmps42
    go_wp2_with fail
    go_quiet (fail)
    go_wp2_with (go_at_call 58; refine (binds22 _ _).mono ?_; rintro e w1 ⟨rfl, rfl⟩)
    all_goals go_ret
    all_goals exact ⟨congrArg (fun x => Ending.returned (.bool x)) (by rw [shapeB_3 K.out, Bool.eq_iff_iff]; simp_all <;> omega), by first | exact below_box _ _ | exact below_drewN (below_box _ _) _ | exact below_drewN (below_drewN (below_box _ _) _) _⟩
  | false =>
    by_cases hT : t.tags = []
    rotate_left
    · have hT' : 0 < t.tags.length := List.length_pos_iff.2 hT
      go_enter Try.func42, Try.ntmps42
      go_wp2_with fail
      go_quiet (fail)
      go_wp2_with (go_at_call 58; refine (binds22 _ _).mono ?_; rintro e w1 ⟨rfl, rfl⟩)
      all_goals go_ret
      all_goals exact ⟨congrArg (fun x => Ending.returned (.bool x)) (by rw [shapeB_3 K.out, Bool.eq_iff_iff]; simp_all <;> omega), by first | exact below_box _ _ | exact below_drewN (below_box _ _) _ | exact below_drewN (below_drewN (below_box _ _) _) _⟩
    go_enter Try.func42, Try.ntmps42
    go_wp2_with fail
    go_quiet (fail)
    go_wp2_with (go_at_call 58; refine (binds22 _ _).mono ?_; rintro e w1 ⟨rfl, rfl⟩)
    all_goals go_ret
    all_goals exact ⟨congrArg (fun x => Ending.returned (.bool x)) (by rw [shapeB_3 K.out, Bool.eq_iff_iff]; simp_all <;> omega), by first | exact below_box _ _ | exact below_drewN (below_box _ _) _ | exact below_drewN (below_drewN (below_box _ _) _) _⟩
set_option maxRecDepth 100000 in
theorem shape_9 {m : Mp} {t : Term} {tb tcap ab acap fb fcap nb ncap} (O : Opn m t tb tcap ab acap fb fcap nb ncap) (k9 : t.kind = 9) (w : World) (hm : Ag m w) :
    Calls Try.prog 42 #[.agg #[.int .i64 t.kind, .int .i64 t.x, .int .i64 t.n, .bool t.ints, .slice tb t.tags.length tcap, .slice ab t.args.length acap, .slice fb t.funs.length fcap, .slice nb t.next.length ncap]] w fun e w' => e = .returned (.bool (shapeB t)) ∧ Below w.heap.size w w' := by
  have HM := Lib.hid (fun o => hm.later (below_box w o))
  have HT := Lib.hid O.tags
  have t2 := O.tags.len
  have a2 := O.args.len
  have f2 := O.fbd
  have n2 := O.nbd
  have K := Lib.hid k9
  have hb : bindsB 9 = true := rfl
  clear hm O
  by_cases hF : t.funs = []
  rotate_left
  · have hF' : 0 < t.funs.length := List.length_pos_iff.2 hF
    go_enter Try.func42, Try.ntmps42
    go_wp2_with fail
    go_quiet (fail)
    go_wp2_with (go_at_call 58; refine (binds22 _ _).mono ?_; rintro e w1 ⟨rfl, rfl⟩)
    all_goals go_ret
    all_goals exact ⟨congrArg (fun x => Ending.returned (.bool x)) (by rw [shapeB_9 K.out, Bool.eq_iff_iff]; simp_all <;> omega), by first | exact below_box _ _ | exact below_drewN (below_box _ _) _ | exact below_drewN (below_drewN (below_box _ _) _) _⟩
  cases hI : t.ints with
  | true =>
    go_enter Try.func42, Try.ntmps42
    go_wp2_with fail
    go_quiet (fail)
    go_wp2_with (go_at_call 58; refine (binds22 _ _).mono ?_; rintro e w1 ⟨rfl, rfl⟩)
    all_goals go_ret
    all_goals exact ⟨congrArg (fun x => Ending.returned (.bool x)) (by rw [shapeB_9 K.out, Bool.eq_iff_iff]; simp_all <;> omega), by first | exact below_box _ _ | exact below_drewN (below_box _ _) _ | exact below_drewN (below_drewN (below_box _ _) _) _⟩
  | false =>
    by_cases hT : t.tags = []
    rotate_left
    · have hT' : 0 < t.tags.length := List.length_pos_iff.2 hT
      go_enter Try.func42, Try.ntmps42
      go_wp2_with fail
      go_quiet (fail)
      go_wp2_with (go_at_call 58; refine (binds22 _ _).mono ?_; rintro e w1 ⟨rfl, rfl⟩)
      all_goals go_ret
      all_goals exact ⟨congrArg (fun x => Ending.returned (.bool x)) (by rw [shapeB_9 K.out, Bool.eq_iff_iff]; simp_all <;> omega), by first | exact below_box _ _ | exact below_drewN (below_box _ _) _ | exact below_drewN (below_drewN (below_box _ _) _) _⟩
    go_enter Try.func42, Try.ntmps42
    go_wp2_with fail
    go_quiet (fail)
    go_wp2_with (go_at_call 58; refine (binds22 _ _).mono ?_; rintro e w1 ⟨rfl, rfl⟩)
    all_goals go_ret
    all_goals exact ⟨congrArg (fun x => Ending.returned (.bool x)) (by rw [shapeB_9 K.out, Bool.eq_iff_iff]; simp_all <;> omega), by first | exact below_box _ _ | exact below_drewN (below_box _ _) _ | exact below_drewN (below_drewN (below_box _ _) _) _⟩
set_option maxRecDepth 100000 in
theorem shape_10 {m : Mp} {t : Term} {tb tcap ab acap fb fcap nb ncap} (O : Opn m t tb tcap ab acap fb fcap nb ncap) (k10 : t.kind = 10) (w : World) (hm : Ag m w) :
    Calls Try.prog 42 #[.agg #[.int .i64 t.kind, .int .i64 t.x, .int .i64 t.n, .bool t.ints, .slice tb t.tags.length tcap, .slice ab t.args.length acap, .slice fb t.funs.length fcap, .slice nb t.next.length ncap]] w fun e w' => e = .returned (.bool (shapeB t)) ∧ Below w.heap.size w w' := by
  have HM := Lib.hid (fun o => hm.later (below_box w o))
  have HT := Lib.hid O.tags
  have t2 := O.tags.len
  have a2 := O.args.len
  have f2 := O.fbd
  have n2 := O.nbd
  have K := Lib.hid k10
  have hb : bindsB 10 = true := rfl
  clear hm O
  by_cases hF : t.funs = []
  rotate_left
  · have hF' : 0 < t.funs.length := List.length_pos_iff.2 hF
    go_enter Try.func42, Try.ntmps42
    go_wp2_with fail
    go_quiet (fail)
    go_wp2_with (go_at_call 58; refine (binds22 _ _).mono ?_; rintro e w1 ⟨rfl, rfl⟩)
    all_goals go_ret
    all_goals exact ⟨congrArg (fun x => Ending.returned (.bool x)) (by rw [shapeB_10 K.out, Bool.eq_iff_iff]; simp_all <;> omega), by first | exact below_box _ _ | exact below_drewN (below_box _ _) _ | exact below_drewN (below_drewN (below_box _ _) _) _⟩
  cases hI : t.ints with
  | true =>
    go_enter Try.func42, Try.ntmps42
    go_wp2_with fail
    go_quiet (fail)
    go_wp2_with (go_at_call 58; refine (binds22 _ _).mono ?_; rintro e w1 ⟨rfl, rfl⟩)
    all_goals go_ret
    all_goals exact ⟨congrArg (fun x => Ending.returned (.bool x)) (by rw [shapeB_10 K.out, Bool.eq_iff_iff]; simp_all <;> omega), by first | exact below_box _ _ | exact below_drewN (below_box _ _) _ | exact below_drewN (below_drewN (below_box _ _) _) _⟩
  | false =>
    by_cases hT : t.tags = []
    rotate_left
    · have hT' : 0 < t.tags.length := List.length_pos_iff.2 hT
      go_enter Try.func42, Try.ntmps42
      go_wp2_with fail
      go_quiet (fail)
      go_wp2_with (go_at_call 58; refine (binds22 _ _).mono ?_; rintro e w1 ⟨rfl, rfl⟩)
      all_goals go_ret
      all_goals exact ⟨congrArg (fun x => Ending.returned (.bool x)) (by rw [shapeB_10 K.out, Bool.eq_iff_iff]; simp_all <;> omega), by first | exact below_box _ _ | exact below_drewN (below_box _ _) _ | exact below_drewN (below_drewN (below_box _ _) _) _⟩
    go_enter Try.func42, Try.ntmps42
    go_wp2_with fail
    go_quiet (fail)
    go_wp2_with (go_at_call 58; refine (binds22 _ _).mono ?_; rintro e w1 ⟨rfl, rfl⟩)
    all_goals go_ret
    all_goals exact ⟨congrArg (fun x => Ending.returned (.bool x)) (by rw [shapeB_10 K.out, Bool.eq_iff_iff]; simp_all <;> omega), by first | exact below_box _ _ | exact below_drewN (below_box _ _) _ | exact below_drewN (below_drewN (below_box _ _) _) _⟩
set_option maxRecDepth 100000 in
theorem shape_4 {m : Mp} {t : Term} {tb tcap ab acap fb fcap nb ncap} (O : Opn m t tb tcap ab acap fb fcap nb ncap) (k4 : t.kind = 4) (w : World) (hm : Ag m w) :
    Calls Try.prog 42 #[.agg #[.int .i64 t.kind, .int .i64 t.x, .int .i64 t.n, .bool t.ints, .slice tb t.tags.length tcap, .slice ab t.args.length acap, .slice fb t.funs.length fcap, .slice nb t.next.length ncap]] w fun e w' => e = .returned (.bool (shapeB t)) ∧ Below w.heap.size w w' := by
  have HM := Lib.hid (fun o => hm.later (below_box w o))
  have HT := Lib.hid O.tags
  have t2 := O.tags.len
  have a2 := O.args.len
  have f2 := O.fbd
  have n2 := O.nbd
  have K := Lib.hid k4
  have hb : bindsB 4 = false := rfl
  clear hm O
  by_cases hx : t.x = 0
  rotate_left
  · have hx' : (t.x != 0) = true := by simpa using hx
    go_enter Try.func42, Try.ntmps42
    go_wp2_with fail
    go_quiet (fail)
    go_wp2_with (go_at_call 58; refine (binds22 _ _).mono ?_; rintro e w1 ⟨rfl, rfl⟩)
    all_goals go_ret
    all_goals exact ⟨congrArg (fun x => Ending.returned (.bool x)) (by rw [shapeB_4 K.out, Bool.eq_iff_iff]; simp_all <;> omega), by first | exact below_box _ _ | exact below_drewN (below_box _ _) _ | exact below_drewN (below_drewN (below_box _ _) _) _⟩
  have hx' : (t.x != 0) = false := by simpa using hx
  cases hI : t.ints with
  | true =>
    go_enter Try.func42, Try.ntmps42
    go_wp2_with fail
    go_quiet (fail)
    go_wp2_with (go_at_call 58; refine (binds22 _ _).mono ?_; rintro e w1 ⟨rfl, rfl⟩)
    all_goals go_ret
    all_goals exact ⟨congrArg (fun x => Ending.returned (.bool x)) (by rw [shapeB_4 K.out, Bool.eq_iff_iff]; simp_all <;> omega), by first | exact below_box _ _ | exact below_drewN (below_box _ _) _ | exact below_drewN (below_drewN (below_box _ _) _) _⟩
  | false =>
    by_cases hT : t.tags = []
    rotate_left
    · have hT' : 0 < t.tags.length := List.length_pos_iff.2 hT
      go_enter Try.func42, Try.ntmps42
      go_wp2_with fail
      go_quiet (fail)
      go_wp2_with (go_at_call 58; refine (binds22 _ _).mono ?_; rintro e w1 ⟨rfl, rfl⟩)
      all_goals go_ret
      all_goals exact ⟨congrArg (fun x => Ending.returned (.bool x)) (by rw [shapeB_4 K.out, Bool.eq_iff_iff]; simp_all <;> omega), by first | exact below_box _ _ | exact below_drewN (below_box _ _) _ | exact below_drewN (below_drewN (below_box _ _) _) _⟩
    by_cases hF : t.funs = []
    rotate_left
    · have hF' : 0 < t.funs.length := List.length_pos_iff.2 hF
      go_enter Try.func42, Try.ntmps42
      go_wp2_with fail
      go_quiet (fail)
      go_wp2_with (go_at_call 58; refine (binds22 _ _).mono ?_; rintro e w1 ⟨rfl, rfl⟩)
      all_goals go_ret
      all_goals exact ⟨congrArg (fun x => Ending.returned (.bool x)) (by rw [shapeB_4 K.out, Bool.eq_iff_iff]; simp_all <;> omega), by first | exact below_box _ _ | exact below_drewN (below_box _ _) _ | exact below_drewN (below_drewN (below_box _ _) _) _⟩
    go_enter Try.func42, Try.ntmps42
    go_wp2_with fail
    go_quiet (fail)
    go_wp2_with (go_at_call 58; refine (binds22 _ _).mono ?_; rintro e w1 ⟨rfl, rfl⟩)
    all_goals go_ret
    all_goals exact ⟨congrArg (fun x => Ending.returned (.bool x)) (by rw [shapeB_4 K.out, Bool.eq_iff_iff]; simp_all <;> omega), by first | exact below_box _ _ | exact below_drewN (below_box _ _) _ | exact below_drewN (below_drewN (below_box _ _) _) _⟩
set_option maxRecDepth 100000 in
theorem shape_7 {m : Mp} {t : Term} {tb tcap ab acap fb fcap nb ncap} (O : Opn m t tb tcap ab acap fb fcap nb ncap) (k7 : t.kind = 7) (w : World) (hm : Ag m w) :
    Calls Try.prog 42 #[.agg #[.int .i64 t.kind, .int .i64 t.x, .int .i64 t.n, .bool t.ints, .slice tb t.tags.length tcap, .slice ab t.args.length acap, .slice fb t.funs.length fcap, .slice nb t.next.length ncap]] w fun e w' => e = .returned (.bool (shapeB t)) ∧ Below w.heap.size w w' := by
  have HM := Lib.hid (fun o => hm.later (below_box w o))
  have HT := Lib.hid O.tags
  have t2 := O.tags.len
  have a2 := O.args.len
  have f2 := O.fbd
  have n2 := O.nbd
  have K := Lib.hid k7
  have hb : bindsB 7 = false := rfl
  clear hm O
  by_cases hx : t.x = 0
  rotate_left
  · have hx' : (t.x != 0) = true := by simpa using hx
    go_enter Try.func42, Try.ntmps42
    go_wp2_with fail
    go_quiet (fail)
    go_wp2_with (go_at_call 58; refine (binds22 _ _).mono ?_; rintro e w1 ⟨rfl, rfl⟩)
    all_goals go_ret
    all_goals exact ⟨congrArg (fun x => Ending.returned (.bool x)) (by rw [shapeB_7 K.out, Bool.eq_iff_iff]; simp_all <;> omega), by first | exact below_box _ _ | exact below_drewN (below_box _ _) _ | exact below_drewN (below_drewN (below_box _ _) _) _⟩
  have hx' : (t.x != 0) = false := by simpa using hx
  by_cases hF : t.funs = []
  rotate_left
  · have hF' : 0 < t.funs.length := List.length_pos_iff.2 hF
    go_enter Try.func42, Try.ntmps42
    go_wp2_with fail
    go_quiet (fail)
    go_wp2_with (go_at_call 58; refine (binds22 _ _).mono ?_; rintro e w1 ⟨rfl, rfl⟩)
    all_goals go_ret
    all_goals exact ⟨congrArg (fun x => Ending.returned (.bool x)) (by rw [shapeB_7 K.out, Bool.eq_iff_iff]; simp_all <;> omega), by first | exact below_box _ _ | exact below_drewN (below_box _ _) _ | exact below_drewN (below_drewN (below_box _ _) _) _⟩
  cases hI : t.ints with
  | true =>
    go_enter Try.func42, Try.ntmps42
    go_wp2_with fail
    go_quiet (fail)
    go_wp2_with (go_at_call 58; refine (binds22 _ _).mono ?_; rintro e w1 ⟨rfl, rfl⟩)
    all_goals go_ret
    all_goals exact ⟨congrArg (fun x => Ending.returned (.bool x)) (by rw [shapeB_7 K.out, Bool.eq_iff_iff]; simp_all <;> omega), by first | exact below_box _ _ | exact below_drewN (below_box _ _) _ | exact below_drewN (below_drewN (below_box _ _) _) _⟩
  | false =>
    by_cases hT : t.tags = []
    rotate_left
    · have hT' : 0 < t.tags.length := List.length_pos_iff.2 hT
      go_enter Try.func42, Try.ntmps42
      go_wp2_with fail
      go_quiet (fail)
      go_wp2_with (go_at_call 58; refine (binds22 _ _).mono ?_; rintro e w1 ⟨rfl, rfl⟩)
      all_goals go_ret
      all_goals exact ⟨congrArg (fun x => Ending.returned (.bool x)) (by rw [shapeB_7 K.out, Bool.eq_iff_iff]; simp_all <;> omega), by first | exact below_box _ _ | exact below_drewN (below_box _ _) _ | exact below_drewN (below_drewN (below_box _ _) _) _⟩
    go_enter Try.func42, Try.ntmps42
    go_wp2_with fail
    go_quiet (fail)
    go_wp2_with (go_at_call 58; refine (binds22 _ _).mono ?_; rintro e w1 ⟨rfl, rfl⟩)
    all_goals go_ret
    all_goals exact ⟨congrArg (fun x => Ending.returned (.bool x)) (by rw [shapeB_7 K.out, Bool.eq_iff_iff]; simp_all <;> omega), by first | exact below_box _ _ | exact below_drewN (below_box _ _) _ | exact below_drewN (below_drewN (below_box _ _) _) _⟩
set_option maxRecDepth 100000 in
theorem shape_8 {m : Mp} {t : Term} {tb tcap ab acap fb fcap nb ncap} (O : Opn m t tb tcap ab acap fb fcap nb ncap) (k8 : t.kind = 8) (w : World) (hm : Ag m w) :
    Calls Try.prog 42 #[.agg #[.int .i64 t.kind, .int .i64 t.x, .int .i64 t.n, .bool t.ints, .slice tb t.tags.length tcap, .slice ab t.args.length acap, .slice fb t.funs.length fcap, .slice nb t.next.length ncap]] w fun e w' => e = .returned (.bool (shapeB t)) ∧ Below w.heap.size w w' := by
  have HM := Lib.hid (fun o => hm.later (below_box w o))
  have HT := Lib.hid O.tags
  have t2 := O.tags.len
  have a2 := O.args.len
  have f2 := O.fbd
  have n2 := O.nbd
  have K := Lib.hid k8
  have hb : bindsB 8 = false := rfl
  clear hm O
  by_cases hx : t.x = 0
  rotate_left
  · have hx' : (t.x != 0) = true := by simpa using hx
    go_enter Try.func42, Try.ntmps42
    go_wp2_with fail
    go_quiet (fail)
    go_wp2_with (go_at_call 58; refine (binds22 _ _).mono ?_; rintro e w1 ⟨rfl, rfl⟩)
    all_goals go_ret
    all_goals exact ⟨congrArg (fun x => Ending.returned (.bool x)) (by rw [shapeB_8 K.out, Bool.eq_iff_iff]; simp_all <;> omega), by first | exact below_box _ _ | exact below_drewN (below_box _ _) _ | exact below_drewN (below_drewN (below_box _ _) _) _⟩
  have hx' : (t.x != 0) = false := by simpa using hx
  by_cases hF : t.funs = []
  rotate_left
  · have hF' : 0 < t.funs.length := List.length_pos_iff.2 hF
    go_enter Try.func42, Try.ntmps42
    go_wp2_with fail
    go_quiet (fail)
    go_wp2_with (go_at_call 58; refine (binds22 _ _).mono ?_; rintro e w1 ⟨rfl, rfl⟩)
    all_goals go_ret
    all_goals exact ⟨congrArg (fun x => Ending.returned (.bool x)) (by rw [shapeB_8 K.out, Bool.eq_iff_iff]; simp_all <;> omega), by first | exact below_box _ _ | exact below_drewN (below_box _ _) _ | exact below_drewN (below_drewN (below_box _ _) _) _⟩
  cases hI : t.ints with
  | true =>
    go_enter Try.func42, Try.ntmps42
    go_wp2_with fail
    go_quiet (fail)
    go_wp2_with (go_at_call 58; refine (binds22 _ _).mono ?_; rintro e w1 ⟨rfl, rfl⟩)
    all_goals go_ret
    all_goals exact ⟨congrArg (fun x => Ending.returned (.bool x)) (by rw [shapeB_8 K.out, Bool.eq_iff_iff]; simp_all <;> omega), by first | exact below_box _ _ | exact below_drewN (below_box _ _) _ | exact below_drewN (below_drewN (below_box _ _) _) _⟩
  | false =>
    by_cases hT : t.tags = []
    rotate_left
    · have hT' : 0 < t.tags.length := List.length_pos_iff.2 hT
      go_enter Try.func42, Try.ntmps42
      go_wp2_with fail
      go_quiet (fail)
      go_wp2_with (go_at_call 58; refine (binds22 _ _).mono ?_; rintro e w1 ⟨rfl, rfl⟩)
      all_goals go_ret
      all_goals exact ⟨congrArg (fun x => Ending.returned (.bool x)) (by rw [shapeB_8 K.out, Bool.eq_iff_iff]; simp_all <;> omega), by first | exact below_box _ _ | exact below_drewN (below_box _ _) _ | exact below_drewN (below_drewN (below_box _ _) _) _⟩
    go_enter Try.func42, Try.ntmps42
    go_wp2_with fail
    go_quiet (fail)
    go_wp2_with (go_at_call 58; refine (binds22 _ _).mono ?_; rintro e w1 ⟨rfl, rfl⟩)
    all_goals go_ret
    all_goals exact ⟨congrArg (fun x => Ending.returned (.bool x)) (by rw [shapeB_8 K.out, Bool.eq_iff_iff]; simp_all <;> omega), by first | exact below_box _ _ | exact below_drewN (below_box _ _) _ | exact below_drewN (below_drewN (below_box _ _) _) _⟩
end Go.Proofs.Ytimljadlfhccpaa
