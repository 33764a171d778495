/- What a term's kind has: the document's own test. -/
import Derived.Test.YtimljadlfhccpaaProg
import Derived.Test.YtimljadlfhccpaaShape
set_option linter.all false
set_option linter.all false
set_option linter.all false
namespace Go.Proofs.Ytimljadlfhccpaa
open Go.RowKit
set_option maxHeartbeats 1000000
theorem Ag.drewN {m : Mp} {w : World} (hm : Ag m w) (n : Nat) : Ag m (w.drewN n) := hm

set_option maxRecDepth 100000 in
theorem shape_5 {m : Mp} {t : Term} {tb tcap ab acap fb fcap nb ncap} (O : Opn m t tb tcap ab acap fb fcap nb ncap) (k5 : t.kind = 5) (w : World) (hm : Ag m w) :
    Calls Try.prog 42 #[.agg #[.int .i64 t.kind, .int .i64 t.x, .int .i64 t.n, .bool t.ints, .slice tb t.tags.length tcap, .slice ab t.args.length acap, .slice fb t.funs.length fcap, .slice nb t.next.length ncap]] w fun e w' => e = .returned (.bool (shapeB t)) ∧ Below w.heap.size w w' := by
  have HM := Lib.hid (fun o => hm.later (below_box w o))
  have HT := Lib.hid O.tags
  have t2 := O.tags.len
  have a2 := O.args.len
  have f2 := O.fbd
  have n2 := O.nbd
  have K := Lib.hid k5
  have hb : bindsB 5 = false := rfl
  clear hm O
  by_cases hx : t.x = 0
  rotate_left
  · have hx' : (t.x != 0) = true := by simpa using hx
    go_enter Try.func42, Try.ntmps42
    go_wp2_with fail
    go_quiet (fail)
    go_wp2_with (go_at_call 58; refine (binds22 _ _).mono ?_; rintro e w1 ⟨rfl, rfl⟩)
    all_goals go_ret
    all_goals exact ⟨congrArg (fun x => Ending.returned (.bool x)) (by rw [shapeB_5 K.out, Bool.eq_iff_iff]; simp_all <;> omega), by first | exact below_box _ _ | exact below_drewN (below_box _ _) _ | exact below_drewN (below_drewN (below_box _ _) _) _⟩
  have hx' : (t.x != 0) = false := by simpa using hx
  by_cases hF : t.funs = []
  rotate_left
  · have hF' : 0 < t.funs.length := List.length_pos_iff.2 hF
    go_enter Try.func42, Try.ntmps42
    go_wp2_with fail
    go_quiet (fail)
    go_wp2_with (go_at_call 58; refine (binds22 _ _).mono ?_; rintro e w1 ⟨rfl, rfl⟩)
    all_goals go_ret
    all_goals exact ⟨congrArg (fun x => Ending.returned (.bool x)) (by rw [shapeB_5 K.out, Bool.eq_iff_iff]; simp_all <;> omega), by first | exact below_box _ _ | exact below_drewN (below_box _ _) _ | exact below_drewN (below_drewN (below_box _ _) _) _⟩
  cases hI : t.ints with
  | true =>
    go_enter Try.func42, Try.ntmps42
    go_wp2_with fail
    go_quiet (fail)
    go_wp2_with (go_at_call 58; refine (binds22 _ _).mono ?_; rintro e w1 ⟨rfl, rfl⟩)
    all_goals go_ret
    all_goals exact ⟨congrArg (fun x => Ending.returned (.bool x)) (by rw [shapeB_5 K.out, Bool.eq_iff_iff]; simp_all <;> omega), by first | exact below_box _ _ | exact below_drewN (below_box _ _) _ | exact below_drewN (below_drewN (below_box _ _) _) _⟩
  | false =>
    by_cases hT : t.tags = []
    rotate_left
    · have hT' : 0 < t.tags.length := List.length_pos_iff.2 hT
      go_enter Try.func42, Try.ntmps42
      go_wp2_with fail
      go_quiet (fail)
      go_wp2_with (go_at_call 58; refine (binds22 _ _).mono ?_; rintro e w1 ⟨rfl, rfl⟩)
      all_goals go_ret
      all_goals exact ⟨congrArg (fun x => Ending.returned (.bool x)) (by rw [shapeB_5 K.out, Bool.eq_iff_iff]; simp_all <;> omega), by first | exact below_box _ _ | exact below_drewN (below_box _ _) _ | exact below_drewN (below_drewN (below_box _ _) _) _⟩
    go_enter Try.func42, Try.ntmps42
    go_wp2_with fail
    go_quiet (fail)
    go_wp2_with (go_at_call 58; refine (binds22 _ _).mono ?_; rintro e w1 ⟨rfl, rfl⟩)
    all_goals go_ret
    all_goals exact ⟨congrArg (fun x => Ending.returned (.bool x)) (by rw [shapeB_5 K.out, Bool.eq_iff_iff]; simp_all <;> first | omega | (constructor <;> (intro h; first | exact ⟨by omega, by omega, h⟩ | exact h.2.2)) | (intros; omega)), by first | exact below_box _ _ | exact below_drewN (below_box _ _) _ | exact below_drewN (below_drewN (below_box _ _) _) _⟩
set_option maxRecDepth 100000 in
theorem shape_6 {m : Mp} {t : Term} {tb tcap ab acap fb fcap nb ncap} (O : Opn m t tb tcap ab acap fb fcap nb ncap) (k6 : t.kind = 6) (w : World) (hm : Ag m w) :
    Calls Try.prog 42 #[.agg #[.int .i64 t.kind, .int .i64 t.x, .int .i64 t.n, .bool t.ints, .slice tb t.tags.length tcap, .slice ab t.args.length acap, .slice fb t.funs.length fcap, .slice nb t.next.length ncap]] w fun e w' => e = .returned (.bool (shapeB t)) ∧ Below w.heap.size w w' := by
  have HM := Lib.hid (fun o => hm.later (below_box w o))
  have HT := Lib.hid O.tags
  have t2 := O.tags.len
  have a2 := O.args.len
  have f2 := O.fbd
  have n2 := O.nbd
  have K := Lib.hid k6
  have hb : bindsB 6 = false := rfl
  clear hm O
  by_cases hx : t.x = 0
  rotate_left
  · have hx' : (t.x != 0) = true := by simpa using hx
    go_enter Try.func42, Try.ntmps42
    go_wp2_with fail
    go_quiet (fail)
    go_wp2_with (go_at_call 58; refine (binds22 _ _).mono ?_; rintro e w1 ⟨rfl, rfl⟩)
    all_goals go_ret
    all_goals exact ⟨congrArg (fun x => Ending.returned (.bool x)) (by rw [shapeB_6 K.out, Bool.eq_iff_iff]; simp_all <;> first | omega | (intros; exfalso; omega) | exact ⟨fun h => ⟨by omega, by omega, by omega, h⟩, fun h => h.2.2.2⟩), by first | exact below_box _ _ | exact below_drewN (below_box _ _) _ | exact below_drewN (below_drewN (below_box _ _) _) _⟩
  have hx' : (t.x != 0) = false := by simpa using hx
  by_cases hF : t.funs = []
  rotate_left
  · have hF' : 0 < t.funs.length := List.length_pos_iff.2 hF
    go_enter Try.func42, Try.ntmps42
    go_wp2_with fail
    go_quiet (fail)
    go_wp2_with (go_at_call 58; refine (binds22 _ _).mono ?_; rintro e w1 ⟨rfl, rfl⟩)
    all_goals go_ret
    all_goals exact ⟨congrArg (fun x => Ending.returned (.bool x)) (by rw [shapeB_6 K.out, Bool.eq_iff_iff]; simp_all <;> first | omega | (intros; exfalso; omega) | exact ⟨fun h => ⟨by omega, by omega, by omega, h⟩, fun h => h.2.2.2⟩), by first | exact below_box _ _ | exact below_drewN (below_box _ _) _ | exact below_drewN (below_drewN (below_box _ _) _) _⟩
  go_enter Try.func42, Try.ntmps42
  go_wp2_with fail
  go_quiet (fail)
  go_wp2_with (first | (go_at_call 58; refine (binds22 _ _).mono ?_; rintro e w1 ⟨rfl, rfl⟩) | (go_at_call 67; refine (tags_any HT.out _ _ ((HM.out _).drewN _)).mono ?_; rintro e w1 ⟨rfl, nd, rfl⟩))
  all_goals go_ret
  all_goals exact ⟨congrArg (fun x => Ending.returned (.bool x)) (by rw [shapeB_6 K.out, Bool.eq_iff_iff]; simp_all <;> first | omega | (intros; exfalso; omega) | exact ⟨fun h => ⟨by omega, by omega, by omega, h⟩, fun h => h.2.2.2⟩), by first | exact below_box _ _ | exact below_drewN (below_box _ _) _ | exact below_drewN (below_drewN (below_box _ _) _) _⟩
end Go.Proofs.Ytimljadlfhccpaa
