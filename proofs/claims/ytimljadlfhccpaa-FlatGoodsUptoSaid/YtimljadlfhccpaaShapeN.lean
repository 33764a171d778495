/- What a term's kind has: other kinds; and all together. -/
import Derived.Test.YtimljadlfhccpaaProg
import Derived.Test.YtimljadlfhccpaaMRT
set_option linter.all false
set_option linter.all false
set_option linter.all false
namespace Go.Proofs.Ytimljadlfhccpaa
open Go.RowKit
set_option maxHeartbeats 1000000

set_option maxRecDepth 100000 in
theorem shape_none {m : Mp} {t : Term} {tb tcap ab acap fb fcap nb ncap} (O : Opn m t tb tcap ab acap fb fcap nb ncap) (kn : ¬ t.kind = 1 ∧ ¬ t.kind = 2 ∧ ¬ t.kind = 3 ∧ ¬ t.kind = 4 ∧ ¬ t.kind = 5 ∧ ¬ t.kind = 6 ∧ ¬ t.kind = 7 ∧ ¬ t.kind = 8 ∧ ¬ t.kind = 9 ∧ ¬ t.kind = 10) (w : World) :
    Calls Try.prog 42 #[.agg #[.int .i64 t.kind, .int .i64 t.x, .int .i64 t.n, .bool t.ints, .slice tb t.tags.length tcap, .slice ab t.args.length acap, .slice fb t.funs.length fcap, .slice nb t.next.length ncap]] w fun e w' => e = .returned (.bool (shapeB t)) ∧ Below w.heap.size w w' := by
  have HF := Lib.hid (shapeB_no kn)
  have t2 := O.tags.len
  have a2 := O.args.len
  have f2 := O.fbd
  have n2 := O.nbd
  obtain ⟨h1, h2, h3, h4, h5, h6, h7, h8, h9, h10⟩ := kn
  have hb : bindsB t.kind = false := by simp [bindsB, h1, h2, h3, h9, h10]
  have q1 : (t.kind == 1) = false := by simpa using h1
  have q2 : (t.kind == 2) = false := by simpa using h2
  have q3 : (t.kind == 3) = false := by simpa using h3
  have q4 : (t.kind == 4) = false := by simpa using h4
  have q5 : (t.kind == 5) = false := by simpa using h5
  have q6 : (t.kind == 6) = false := by simpa using h6
  have q7 : (t.kind == 7) = false := by simpa using h7
  have q8 : (t.kind == 8) = false := by simpa using h8
  have q9 : (t.kind == 9) = false := by simpa using h9
  have q10 : (t.kind == 10) = false := by simpa using h10
  have r4 : (t.kind != 4) = true := by simpa using h4
  have r6 : (t.kind != 6) = true := by simpa using h6
  clear h1 h2 h3 h4 h5 h6 h7 h8 h9 h10 O
  have walk : ∀ (_ : (t.x != 0) = true ∨ (t.x != 0) = false) (_ : t.funs = [] ∨ 0 < t.funs.length) (_ : t.ints = true ∨ t.ints = false) (_ : t.tags = [] ∨ 0 < t.tags.length), True := fun _ _ _ _ => trivial
  clear walk
  cases hx : (t.x != 0) with
  | true =>
    go_enter Try.func42, Try.ntmps42
    go_wp2_with fail
    go_quiet (fail)
    go_wp2_with (go_at_call 58; refine (binds22 _ _).mono ?_; rintro e w1 ⟨rfl, rfl⟩)
    go_ret
    exact ⟨by rw [HF.out]; rfl, below_drewN (below_box _ _) _⟩
  | false =>
    by_cases hF : t.funs = []
    rotate_left
    · have hF' : 0 < t.funs.length := List.length_pos_iff.2 hF
      clear hF
      go_enter Try.func42, Try.ntmps42
      go_wp2_with fail
      go_quiet (fail)
      go_wp2_with (go_at_call 58; refine (binds22 _ _).mono ?_; rintro e w1 ⟨rfl, rfl⟩)
      go_ret
      exact ⟨by rw [HF.out]; rfl, below_drewN (below_box _ _) _⟩
    cases hI : t.ints with
    | true =>
      go_enter Try.func42, Try.ntmps42
      go_wp2_with fail
      go_quiet (fail)
      go_wp2_with (go_at_call 58; refine (binds22 _ _).mono ?_; rintro e w1 ⟨rfl, rfl⟩)
      go_ret
      exact ⟨by rw [HF.out]; rfl, below_drewN (below_box _ _) _⟩
    | false =>
      by_cases hT : t.tags = []
      rotate_left
      · have hT' : 0 < t.tags.length := List.length_pos_iff.2 hT
        clear hT
        go_enter Try.func42, Try.ntmps42
        go_wp2_with fail
        go_quiet (fail)
        go_wp2_with (go_at_call 58; refine (binds22 _ _).mono ?_; rintro e w1 ⟨rfl, rfl⟩)
        go_ret
        exact ⟨by rw [HF.out]; rfl, below_drewN (below_box _ _) _⟩
      go_enter Try.func42, Try.ntmps42
      go_wp2_with fail
      go_quiet (fail)
      go_wp2_with (go_at_call 58; refine (binds22 _ _).mono ?_; rintro e w1 ⟨rfl, rfl⟩)
      all_goals go_ret
      all_goals exact ⟨by rw [HF.out]; rfl, below_drewN (below_box _ _) _⟩
theorem shape_any {m : Mp} {t : Term} {tb tcap ab acap fb fcap nb ncap} (O : Opn m t tb tcap ab acap fb fcap nb ncap) (w : World) (hm : Ag m w) :
    Calls Try.prog 42 #[.agg #[.int .i64 t.kind, .int .i64 t.x, .int .i64 t.n, .bool t.ints, .slice tb t.tags.length tcap, .slice ab t.args.length acap, .slice fb t.funs.length fcap, .slice nb t.next.length ncap]] w fun e w' => e = .returned (.bool (shapeB t)) ∧ Below w.heap.size w w' := by
  by_cases k1 : t.kind = 1
  · exact shape_1 O k1 w hm
  by_cases k2 : t.kind = 2
  · exact shape_2 O k2 w hm
  by_cases k3 : t.kind = 3
  · exact shape_3 O k3 w hm
  by_cases k4 : t.kind = 4
  · exact shape_4 O k4 w hm
  by_cases k5 : t.kind = 5
  · exact shape_5 O k5 w hm
  by_cases k6 : t.kind = 6
  · exact shape_6 O k6 w hm
  by_cases k7 : t.kind = 7
  · exact shape_7 O k7 w hm
  by_cases k8 : t.kind = 8
  · exact shape_8 O k8 w hm
  by_cases k9 : t.kind = 9
  · exact shape_9 O k9 w hm
  by_cases k10 : t.kind = 10
  · exact shape_10 O k10 w hm
  exact shape_none O ⟨k1, k2, k3, k4, k5, k6, k7, k8, k9, k10⟩ w
end Go.Proofs.Ytimljadlfhccpaa
