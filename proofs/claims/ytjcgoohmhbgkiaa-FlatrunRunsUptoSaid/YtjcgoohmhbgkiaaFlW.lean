/- The machine's run: what it refuses. -/
import Derived.Test.YtjcgoohmhbgkiaaProg
import Derived.Test.YtjcgoohmhbgkiaaMFv
import Derived.Test.YtjcgoohmhbgkiaaGoodG
set_option linter.all false
set_option linter.all false
set_option linter.all false
namespace Go.Proofs.Ytjcgoohmhbgkiaa
open Go.RowKit
set_option maxHeartbeats 1000000

theorem told_none (w0 w : World) (cb : Nat) (e err : Int) (h0 : w.cell? ⟨cb, 0, none⟩ = some (.int .i64 0)) (h1 : w.cell? ⟨cb, 1, none⟩ = some (.int .i64 0)) (h2 : w.cell? ⟨cb, 2, none⟩ = some (.int .i64 0)) : ToldAt ⟨e, [], [], 0, 0, 0, err⟩ w0 w (.slice none 0 0) (.slice none 0 0) cb :=
  ⟨rints_nil _, rints_nil _, h0, h1, h2⟩
set_option maxRecDepth 100000 in
theorem run_bad {m : Mp} {v : Value} {f : Flat} (hr : RFlat m v f) {pl : Value} {l : List Int} {fuel : Int} (w : World) (hm : Ag m w) (hg : goodFlat f = false) :
    Calls Try.prog 22 #[.agg #[v, .int .i64 f.main], pl, .int .i64 fuel] w (RunPost (runF f l fuel) w) := by
  have HG := Lib.hid (fun (wx : World) (hb : Below w.heap.size w wx) => flGood hr wx (hm.later hb))
  rw [hg] at HG
  have HR := Lib.hid (runF_bad hg l fuel)
  obtain ⟨fb, fc, rfl, _⟩ := hr.1.opn
  clear hr hm hg
  go_enter Try.func22, Try.ntmps22
  go_wp2_with (go_at_call 32; refine (HG.out _ (bgo (below_box _ _) (below_box _ _))).mono ?_; rintro e w1 ⟨rfl, hb1⟩; obtain ⟨gb, gz⟩ := new_cells (cs := [.int .i64 0, .slice none 0 0, .slice none 0 0]) hb1 (b := w.heap.size + 1) (by simp); have g0 := gb.2 0 _ rfl; have g1 := gb.2 1 _ rfl; have g2 := gb.2 2 _ rfl; have gs := gb.1; have z0 := gz 0; have z1 := gz 1; have z2 := gz 2; have HB1 := Lib.hid hb1; clear gb gz hb1)
  refine bodyPost_ret (v := .tuple #[.agg #[.int .i64 0, .slice none 0 0, .slice none 0 0], .pointer (some ⟨w1.heap.size, 0, none⟩), .int .i64 250]) (by simp [results, Try.results22, go_sem, g0, g1, g2, gs]) rfl ?_
  rw [HR.out]
  have gx := BoxAt.new' ((((w1.setCell ⟨w.heap.size + 1, 0, none⟩ (.int .i64 0)).setCell ⟨w.heap.size + 1, 1, none⟩ (.slice none 0 0)).setCell ⟨w.heap.size + 1, 2, none⟩ (.slice none 0 0))) [.int .i64 0, .int .i64 0, .int .i64 0] 79 w1.heap.size (by simp)
  refine ⟨_, _, _, rfl, ?_, told_none _ _ _ _ _ (gx.2 0 _ rfl) (gx.2 1 _ rfl) (gx.2 2 _ rfl)⟩
  have hb9 := bgo (bgo (below_box w _) (below_box _ _)) HB1.out
  exact ((((hb9.setCell (by simp) _).setCell (by simp) _).setCell (by simp) _).alloc (by simp; omega) _)
set_option maxRecDepth 100000 in
theorem run_arg {m : Mp} {v : Value} {f : Flat} (hr : RFlat m v f) {ao : Option Addr} {cap : Nat} {l : List Int} {fuel : Int} (w : World) (hm : Ag m w) (hl : l.length ≤ 140737488355328) (hg : goodFlat f = true) (ha : 256 < l.length ∨ fuel < 0 ∨ 1048576 < fuel) :
    Calls Try.prog 22 #[.agg #[v, .int .i64 f.main], .slice ao l.length cap, .int .i64 fuel] w (RunPost (runF f l fuel) w) := by
  have HG := Lib.hid (fun (wx : World) (hb : Below w.heap.size w wx) => flGood hr wx (hm.later hb))
  rw [hg] at HG
  have HR := Lib.hid (runF_arg hg ha)
  obtain ⟨fb, fc, rfl, _⟩ := hr.1.opn
  clear hr hm hg
  by_cases h1 : 256 < l.length
  · clear ha
    go_enter Try.func22, Try.ntmps22
    go_wp2_with (go_at_call 32; refine (HG.out _ (bgo (below_box _ _) (below_box _ _))).mono ?_; rintro e w1 ⟨rfl, hb1⟩; obtain ⟨gb, gz⟩ := new_cells (cs := [.int .i64 0, .slice none 0 0, .slice none 0 0]) hb1 (b := w.heap.size + 1) (by simp); have g0 := gb.2 0 _ rfl; have g1 := gb.2 1 _ rfl; have g2 := gb.2 2 _ rfl; have gs := gb.1; have z0 := gz 0; have z1 := gz 1; have z2 := gz 2; have HB1 := Lib.hid hb1; clear gb gz hb1)
    refine bodyPost_ret (v := .tuple #[.agg #[.int .i64 0, .slice none 0 0, .slice none 0 0], .pointer (some ⟨w1.heap.size, 0, none⟩), .int .i64 1]) (by simp [results, Try.results22, go_sem, g0, g1, g2, gs]) rfl ?_
    rw [HR.out]
    have gx := BoxAt.new' ((((w1.setCell ⟨w.heap.size + 1, 0, none⟩ (.int .i64 0)).setCell ⟨w.heap.size + 1, 1, none⟩ (.slice none 0 0)).setCell ⟨w.heap.size + 1, 2, none⟩ (.slice none 0 0))) [.int .i64 0, .int .i64 0, .int .i64 0] 79 w1.heap.size (by simp)
    refine ⟨_, _, _, rfl, ?_, told_none _ _ _ _ _ (gx.2 0 _ rfl) (gx.2 1 _ rfl) (gx.2 2 _ rfl)⟩
    have hb9 := bgo (bgo (below_box w _) (below_box _ _)) HB1.out
    exact ((((hb9.setCell (by simp) _).setCell (by simp) _).setCell (by simp) _).alloc (by simp; omega) _)
  by_cases h2 : fuel < 0
  · clear ha
    go_enter Try.func22, Try.ntmps22
    go_wp2_with (go_at_call 32; refine (HG.out _ (bgo (below_box _ _) (below_box _ _))).mono ?_; rintro e w1 ⟨rfl, hb1⟩; obtain ⟨gb, gz⟩ := new_cells (cs := [.int .i64 0, .slice none 0 0, .slice none 0 0]) hb1 (b := w.heap.size + 1) (by simp); have g0 := gb.2 0 _ rfl; have g1 := gb.2 1 _ rfl; have g2 := gb.2 2 _ rfl; have gs := gb.1; have z0 := gz 0; have z1 := gz 1; have z2 := gz 2; have HB1 := Lib.hid hb1; clear gb gz hb1)
    refine bodyPost_ret (v := .tuple #[.agg #[.int .i64 0, .slice none 0 0, .slice none 0 0], .pointer (some ⟨w1.heap.size, 0, none⟩), .int .i64 1]) (by simp [results, Try.results22, go_sem, g0, g1, g2, gs]) rfl ?_
    rw [HR.out]
    have gx := BoxAt.new' ((((w1.setCell ⟨w.heap.size + 1, 0, none⟩ (.int .i64 0)).setCell ⟨w.heap.size + 1, 1, none⟩ (.slice none 0 0)).setCell ⟨w.heap.size + 1, 2, none⟩ (.slice none 0 0))) [.int .i64 0, .int .i64 0, .int .i64 0] 79 w1.heap.size (by simp)
    refine ⟨_, _, _, rfl, ?_, told_none _ _ _ _ _ (gx.2 0 _ rfl) (gx.2 1 _ rfl) (gx.2 2 _ rfl)⟩
    have hb9 := bgo (bgo (below_box w _) (below_box _ _)) HB1.out
    exact ((((hb9.setCell (by simp) _).setCell (by simp) _).setCell (by simp) _).alloc (by simp; omega) _)
  · have h3 : 1048576 < fuel := by omega
    clear ha
    go_enter Try.func22, Try.ntmps22
    go_wp2_with (go_at_call 32; refine (HG.out _ (bgo (below_box _ _) (below_box _ _))).mono ?_; rintro e w1 ⟨rfl, hb1⟩; obtain ⟨gb, gz⟩ := new_cells (cs := [.int .i64 0, .slice none 0 0, .slice none 0 0]) hb1 (b := w.heap.size + 1) (by simp); have g0 := gb.2 0 _ rfl; have g1 := gb.2 1 _ rfl; have g2 := gb.2 2 _ rfl; have gs := gb.1; have z0 := gz 0; have z1 := gz 1; have z2 := gz 2; have HB1 := Lib.hid hb1; clear gb gz hb1)
    refine bodyPost_ret (v := .tuple #[.agg #[.int .i64 0, .slice none 0 0, .slice none 0 0], .pointer (some ⟨w1.heap.size, 0, none⟩), .int .i64 1]) (by simp [results, Try.results22, go_sem, g0, g1, g2, gs]) rfl ?_
    rw [HR.out]
    have gx := BoxAt.new' ((((w1.setCell ⟨w.heap.size + 1, 0, none⟩ (.int .i64 0)).setCell ⟨w.heap.size + 1, 1, none⟩ (.slice none 0 0)).setCell ⟨w.heap.size + 1, 2, none⟩ (.slice none 0 0))) [.int .i64 0, .int .i64 0, .int .i64 0] 79 w1.heap.size (by simp)
    refine ⟨_, _, _, rfl, ?_, told_none _ _ _ _ _ (gx.2 0 _ rfl) (gx.2 1 _ rfl) (gx.2 2 _ rfl)⟩
    have hb9 := bgo (bgo (below_box w _) (below_box _ _)) HB1.out
    exact ((((hb9.setCell (by simp) _).setCell (by simp) _).setCell (by simp) _).alloc (by simp; omega) _)
end Go.Proofs.Ytjcgoohmhbgkiaa
