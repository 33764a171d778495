/- The run's four faces: Run, Steps, Made, Work. -/
import Derived.Test.YtjcgoohmhbgkiaaProg
import Derived.Test.YtjcgoohmhbgkiaaFlX
set_option linter.all false
set_option linter.all false
set_option linter.all false
namespace Go.Proofs.Ytjcgoohmhbgkiaa
open Go.RowKit
set_option maxHeartbeats 1000000

theorem run_any {m : Mp} {v : Value} {f : Flat} (hr : RFlat m v f) {pl : Value} {l : List Int} (fuel : Int) (w : World) (hm : Ag m w) (hl : RInts m pl l) :
    Calls Try.prog 22 #[.agg #[v, .int .i64 f.main], pl, .int .i64 fuel] w (RunPost (runF f l fuel) w) := by
  cases hg : goodFlat f with
  | false => exact run_bad hr w hm hg
  | true =>
    by_cases ha : 256 < l.length ∨ fuel < 0 ∨ 1048576 < fuel
    · obtain ⟨ao, cap, rfl, _, hln, _⟩ := hl.open hm
      exact run_arg hr w hm hln hg ha
    · exact run_go hr w hm hl hg ha
def RunTold (t : Out) (w : World) (e : Ending) (w' : World) : Prop := ∃ vw vs, e = .returned (.tuple #[.agg #[.int .i64 t.e, vw, vs], .int .i64 t.err]) ∧ Below w.heap.size w w' ∧ RInts (newM w w') vw t.writes ∧ RInts (newM w w') vs t.shows
theorem rints_slice {m : Mp} {v : Value} {l : List Int} (h : RInts m v l) : ∃ a n c, v = .slice a n c := by
  obtain ⟨⟨a, c, rfl, _⟩, _⟩ := h
  exact ⟨a, _, c, rfl⟩
set_option maxRecDepth 100000 in
theorem flRun {m : Mp} {v : Value} {f : Flat} (hr : RFlat m v f) {pl : Value} {l : List Int} (fuel : Int) (w : World) (hm : Ag m w) (hl : RInts m pl l) :
    Calls Try.prog 9 #[.agg #[v, .int .i64 f.main], pl, .int .i64 fuel] w (RunTold (runF f l fuel) w) := by
  have HC := Lib.hid (fun (wx : World) (hb : Below w.heap.size w wx) => run_any hr fuel wx (hm.later hb) hl)
  obtain ⟨fb, fc, rfl, _⟩ := hr.1.opn
  obtain ⟨ao, n, cap, rfl⟩ := rints_slice hl
  clear hr hm hl
  go_enter Try.func9, Try.ntmps9
  go_wp2_with (go_at_call 22; refine (HC.out _ (bgo (below_box _ _) (below_box _ _))).mono ?_; rintro e w1 ⟨vw, vs, cb, rfl, hb1, ht⟩; obtain ⟨gb, gz⟩ := new_cells (cs := [.int .i64 0, .slice none 0 0, .slice none 0 0]) hb1 (b := w.heap.size + 1) (by simp); obtain ⟨wa, wn, wc, rfl⟩ := rints_slice ht.writes; obtain ⟨sa, sn, sc, rfl⟩ := rints_slice ht.shows; have g0 := gb.2 0 _ rfl; have g1 := gb.2 1 _ rfl; have g2 := gb.2 2 _ rfl; have z0 := gz 0; have z1 := gz 1; have z2 := gz 2; have ltR := gb.1; have HB := Lib.hid hb1; have HT := Lib.hid ht; clear hb1 ht gb gz)
  have hk8 : Kept [w.heap.size + 1] w1 ((((w1.setCell ⟨w.heap.size + 1, 0, none⟩ (.int .i64 (runF f l fuel).e)).setCell ⟨w.heap.size + 1, 1, none⟩ (.slice wa wn wc)).setCell ⟨w.heap.size + 1, 2, none⟩ (.slice sa sn sc)).alloc (.cells #[.int .i64 (runF f l fuel).e, .slice wa wn wc, .slice sa sn sc] 30)) :=
    (((kept_setCell (by simp) w1 0 _).trans (kept_setCell (by simp) _ 1 _)).trans (kept_setCell (by simp) _ 2 _)).trans (Kept.below (below_box _ _))
  have hmm : ∀ a v, newM ((w.alloc (.cells #[.slice fb f.funs.length fc, .int .i64 f.main] 24)).alloc (.cells #[.int .i64 0, .slice none 0 0, .slice none 0 0] 30)) w1 a = some v → newM w ((((w1.setCell ⟨w.heap.size + 1, 0, none⟩ (.int .i64 (runF f l fuel).e)).setCell ⟨w.heap.size + 1, 1, none⟩ (.slice wa wn wc)).setCell ⟨w.heap.size + 1, 2, none⟩ (.slice sa sn sc)).alloc (.cells #[.int .i64 (runF f l fuel).e, .slice wa wn wc, .slice sa sn sc] 30)) a = some v := fun a v h => by
    unfold newM at h
    split at h
    · cases h
    · rename_i hn
      simp at hn
      exact newM_of (hk8.cell h (by simp; omega)) (by omega)
  refine bodyPost_ret (v := .tuple #[.agg #[.int .i64 (runF f l fuel).e, .slice wa wn wc, .slice sa sn sc], .int .i64 (runF f l fuel).err]) (by simp [results, Try.results9, go_sem, g0, g1, g2, ltR]) rfl ⟨_, _, rfl, ?_, HT.out.writes.mono hmm, HT.out.shows.mono hmm⟩
  have hb9 := bgo (bgo (below_box w _) (below_box _ _)) HB.out
  exact ((((hb9.setCell (by simp) _).setCell (by simp) _).setCell (by simp) _).alloc (by simp; omega) _)
set_option maxRecDepth 100000 in
theorem flSteps {m : Mp} {v : Value} {f : Flat} (hr : RFlat m v f) {pl : Value} {l : List Int} (fuel : Int) (w : World) (hm : Ag m w) (hl : RInts m pl l) :
    Calls Try.prog 13 #[.agg #[v, .int .i64 f.main], pl, .int .i64 fuel] w fun e w' => e = .returned (.int .i64 (runF f l fuel).steps) ∧ Below w.heap.size w w' := by
  have HC := Lib.hid (fun (wx : World) (hb : Below w.heap.size w wx) => run_any hr fuel wx (hm.later hb) hl)
  obtain ⟨fb, fc, rfl, _⟩ := hr.1.opn
  obtain ⟨ao, n, cap, rfl⟩ := rints_slice hl
  clear hr hm hl
  go_enter Try.func13, Try.ntmps13
  go_wp2_with (first | (go_at_call 22; refine (HC.out _ (below_box _ _)).mono ?_; rintro e w1 ⟨vw, vs, cb, rfl, hb1, ht⟩; obtain ⟨wa, wn, wc, rfl⟩ := rints_slice ht.writes; obtain ⟨sa, sn, sc, rfl⟩ := rints_slice ht.shows; have lc := World.block_lt_of_cell? w1 _ ht.c0; have HL0 := Lib.hid (load_any (((below_box w1 (.cells #[.int .i64 (runF f l fuel).e, .slice wa wn wc, .slice sa sn sc] 30)).cell lc).trans ht.c0))) |
    (go_at_call 26; refine HL0.out.mono ?_; rintro e w2 ⟨rfl, rfl⟩))
  go_ret
  exact ⟨rfl, bgo (bgo (below_box _ _) hb1) (below_box _ _)⟩
set_option maxRecDepth 100000 in
theorem flMade {m : Mp} {v : Value} {f : Flat} (hr : RFlat m v f) {pl : Value} {l : List Int} (fuel : Int) (w : World) (hm : Ag m w) (hl : RInts m pl l) :
    Calls Try.prog 14 #[.agg #[v, .int .i64 f.main], pl, .int .i64 fuel] w fun e w' => e = .returned (.int .i64 (runF f l fuel).made) ∧ Below w.heap.size w w' := by
  have HC := Lib.hid (fun (wx : World) (hb : Below w.heap.size w wx) => run_any hr fuel wx (hm.later hb) hl)
  obtain ⟨fb, fc, rfl, _⟩ := hr.1.opn
  obtain ⟨ao, n, cap, rfl⟩ := rints_slice hl
  clear hr hm hl
  go_enter Try.func14, Try.ntmps14
  go_wp2_with (first | (go_at_call 22; refine (HC.out _ (below_box _ _)).mono ?_; rintro e w1 ⟨vw, vs, cb, rfl, hb1, ht⟩; obtain ⟨wa, wn, wc, rfl⟩ := rints_slice ht.writes; obtain ⟨sa, sn, sc, rfl⟩ := rints_slice ht.shows; have lc := World.block_lt_of_cell? w1 _ ht.c1; have HL0 := Lib.hid (load_any (((below_box w1 (.cells #[.int .i64 (runF f l fuel).e, .slice wa wn wc, .slice sa sn sc] 30)).cell lc).trans ht.c1))) |
    (go_at_call 26; refine HL0.out.mono ?_; rintro e w2 ⟨rfl, rfl⟩))
  go_ret
  exact ⟨rfl, bgo (bgo (below_box _ _) hb1) (below_box _ _)⟩
set_option maxRecDepth 100000 in
theorem flWork {m : Mp} {v : Value} {f : Flat} (hr : RFlat m v f) {pl : Value} {l : List Int} (fuel : Int) (w : World) (hm : Ag m w) (hl : RInts m pl l) :
    Calls Try.prog 15 #[.agg #[v, .int .i64 f.main], pl, .int .i64 fuel] w fun e w' => e = .returned (.int .i64 (runF f l fuel).work) ∧ Below w.heap.size w w' := by
  have HC := Lib.hid (fun (wx : World) (hb : Below w.heap.size w wx) => run_any hr fuel wx (hm.later hb) hl)
  obtain ⟨fb, fc, rfl, _⟩ := hr.1.opn
  obtain ⟨ao, n, cap, rfl⟩ := rints_slice hl
  clear hr hm hl
  go_enter Try.func15, Try.ntmps15
  go_wp2_with (first | (go_at_call 22; refine (HC.out _ (below_box _ _)).mono ?_; rintro e w1 ⟨vw, vs, cb, rfl, hb1, ht⟩; obtain ⟨wa, wn, wc, rfl⟩ := rints_slice ht.writes; obtain ⟨sa, sn, sc, rfl⟩ := rints_slice ht.shows; have lc := World.block_lt_of_cell? w1 _ ht.c2; have HL0 := Lib.hid (load_any (((below_box w1 (.cells #[.int .i64 (runF f l fuel).e, .slice wa wn wc, .slice sa sn sc] 30)).cell lc).trans ht.c2))) |
    (go_at_call 26; refine HL0.out.mono ?_; rintro e w2 ⟨rfl, rfl⟩))
  go_ret
  exact ⟨rfl, bgo (bgo (below_box _ _) hb1) (below_box _ _)⟩
end Go.Proofs.Ytjcgoohmhbgkiaa
