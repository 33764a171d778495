/- The laws of layer 25 ask that a small program is answered: wakes. The laws of layer 25 ask that a small program is answered: wakes. -/
import Derived.Test.YtimljadlfhccpaaProg
import Derived.Test.YtimljadlfhccpaaMkN
import Derived.Test.YtimljadlfhccpaaLargeX
import Derived.Test.YtimljadlfhccpaaMFv
set_option linter.all false
set_option linter.all false
namespace Go.Proofs.Ytimljadlfhccpaa
open Go.RowKit
set_option maxHeartbeats 4000000

theorem newM_cellW {w w' : World} : Ag (newM w w') w' := fun _ _ h => newM_cell h
/-- The small term, as the laws make it. -/
theorem plain22h (w : World) : Calls Try.prog 18 #[] w fun e w' => ∃ ab, e = .returned (haltC ab) ∧ Below w.heap.size w w' ∧ HaltAt ab w' := by
  go_enter Try.func18, Try.ntmps18
  go_wp2_with fail
  refine bodyPost_ret (v := haltC (w.heap.size + 1)) (by simp [results, Try.results18, go_sem, haltC]) rfl ?_
  exact ⟨_, rfl, bgo (below_box _ _) (below_box _ _), by simp, (new_cellsM (cs := [.bool true, .int .i64 0]) (t := 76) (b := w.heap.size + 1) (Below.refl _ _) (by simp)).1.2 0 _ rfl, (new_cellsM (cs := [.bool true, .int .i64 0]) (t := 76) (b := w.heap.size + 1) (Below.refl _ _) (by simp)).1.2 1 _ rfl⟩
set_option maxRecDepth 100000 in
theorem plain25h (w : World) : Calls Try.prog 20 #[] w fun e w' => ∃ fb pb g : Nat, e = .returned (.agg #[.slice (some ⟨fb, 0, none⟩) 1 1, .int .i64 0]) ∧ Below w.heap.size w w' ∧ HaltFAt (fun a => w'.cell? a) fb pb g 1 := by
  go_enter Try.func20, Try.ntmps20
  go_wp2_with (go_at_call 18; refine (plain22h _).mono ?_; rintro e w1 ⟨ab, he1, hb1, hh1⟩; unfold haltC at he1; subst he1; obtain ⟨gb, gz⟩ := new_cellsM (cs := [.slice none 0 0, .int .i64 0]) (bgo (below_box _ _) hb1) (b := w.heap.size) (by simp); obtain ⟨kb, kz⟩ := new_cellsM (cs := [.int .i64 0]) hb1 (b := w.heap.size + 1) (by simp); have g0 := gb.2 0 _ rfl; have g1 := gb.2 1 _ rfl; have z0 := gz 0; have z1 := gz 1; have k0 := kb.2 0 _ rfl; have gs := gb.1; have gs1 := kb.1; have gn0 : ¬ w.heap.size = w1.heap.size := (by omega); have HB1 := Lib.hid hb1; have HH1 := Lib.hid hh1; clear gb gz kb kz hb1 hh1)
  have gx := new_cellsM (W := (w1.setCell ⟨w.heap.size, 0, none⟩ (.slice (some ⟨w1.heap.size, 0, none⟩) 1 1)).setCell ⟨w.heap.size, 1, none⟩ (.int .i64 0)) (cs := [.int .i64 0, .slice (some ⟨w.heap.size + 1, 0, none⟩) 1 1, .int .i64 8, .int .i64 0, .int .i64 0, .bool false, .slice none 0 0, .slice (some ⟨ab, 0, none⟩) 1 1, .slice none 0 0, .slice none 0 0]) (t := 42) (b := w1.heap.size) (Below.refl _ _) (by simp)
  have hk1 : Kept [w.heap.size] w1 ((w1.setCell ⟨w.heap.size, 0, none⟩ (.slice (some ⟨w1.heap.size, 0, none⟩) 1 1)).setCell ⟨w.heap.size, 1, none⟩ (.int .i64 0)) := (kept_setCell (by simp) w1 0 _).trans (kept_setCell (by simp) _ 1 _)
  have hkk := hk1.trans (Kept.below (below_box _ (.cells #[.int .i64 0, .slice (some ⟨w.heap.size + 1, 0, none⟩) 1 1, .int .i64 8, .int .i64 0, .int .i64 0, .bool false, .slice none 0 0, .slice (some ⟨ab, 0, none⟩) 1 1, .slice none 0 0, .slice none 0 0] 42)))
  have hbel : Below w.heap.size w w1 := bgo (bgo (below_box _ _) (below_box _ _)) HB1.out
  refine bodyPost_ret (v := .agg #[.slice (some ⟨w1.heap.size, 0, none⟩) 1 1, .int .i64 0]) (by simp [results, Try.results20, go_sem, g0, g1, gs, gn0]) rfl ?_
  have hab : ¬ ab = w.heap.size := fun e => by subst e; have := HH1.out.c0; rw [g0] at this; cases this
  exact ⟨w1.heap.size, w.heap.size + 1, ab, rfl, hbel.trans (hkk.toBelow hbel.size (by simp)), gx.1.2, hkk.cell k0 (by simp), hkk.cell HH1.out.c0 (by simpa using hab), hkk.cell HH1.out.c1 (by simpa using hab), Nat.le_refl _⟩
theorem haltRun : (runF haltF [5] 9).err = 0 ∧ (runF haltF [5] 9).shows.length = 3 := by decide +kernel
end Go.Proofs.Ytimljadlfhccpaa
set_option linter.all false
namespace Go.Proofs.Ytimljadlfhccpaa
open Go.RowKit
set_option maxHeartbeats 4000000

def GoodSays (P : Program) (F : FuncId) : Prop := ∀ (m : Mp) (v : Value) (f : Flat) (hr : RFlat m v f) (w : World) (hm : Ag m w), Calls P F #[.agg #[v, .int .i64 f.main]] w fun e w' => e = .returned (.bool (goodFlat f)) ∧ Below w.heap.size w w'
def RunSays (P : Program) (F : FuncId) : Prop := ∀ (m : Mp) (v pl : Value) (f : Flat) (l : List Int) (fuel : Int) (hr : RFlat m v f) (hl : RInts m pl l) (hfu : I64 fuel) (w : World) (hm : Ag m w),
  Calls P F #[.agg #[v, .int .i64 f.main], pl, .int .i64 fuel] w fun e w' => ∃ vw vs, e = .returned (.tuple #[.agg #[.int .i64 (runF f l fuel).e, vw, vs, .int .i64 (runF f l fuel).steps, .int .i64 (runF f l fuel).made, .int .i64 (runF f l fuel).work], .int .i64 (runF f l fuel).err]) ∧ Below w.heap.size w w' ∧ RInts (fun a => w'.cell? a) vw (runF f l fuel).writes ∧ RInts (fun a => w'.cell? a) vs (runF f l fuel).shows
theorem HaltFAt.mono {M M' : Mp} {fb pb g c : Nat} (h : HaltFAt M fb pb g c) (hm : ∀ a v, M a = some v → M' a = some v) : HaltFAt M' fb pb g c := ⟨fun j v hv => hm _ _ (h.f j v hv), hm _ _ h.p, hm _ _ h.g0, hm _ _ h.g1, h.cap⟩
theorem ag_self (w : World) : Ag (fun a => w.cell? a) w := fun _ _ h => h
theorem emptyFlat (m : Mp) : RFlat m (.slice none 0 0) ⟨[], 0⟩ := ⟨⟨⟨fun _ => [], fun _ => [], fun _ => .bool false, ⟨none, 0, rfl, by simp, by simp, by simp⟩, by simp, by simp⟩⟩, i64_few 0 (by omega) (by omega)⟩
theorem emptyBad : goodFlat ⟨[], 0⟩ = false := by decide +kernel
set_option maxRecDepth 100000 in
theorem wakes25 (HG : GoodSays Try.prog 8) (HB : GoodSays Try.prog 9) (HR : RunSays Try.prog 19) (w : World) : Calls Try.prog 6 #[] w fun e w' => e = .returned (.bool true) ∧ Below w.heap.size w w' := by
  have HG := Lib.hid HG
  have HB := Lib.hid HB
  have HR := Lib.hid HR
  go_enter Try.func6, Try.ntmps6
  go_wp2_with fail
  go_at_call 18
  refine (plain22h _).mono ?_
  rintro e w1 ⟨ab, he1, hb1, hh1⟩
  unfold haltC at he1
  subst he1
  have HB1 := Lib.hid hb1
  have HH1 := Lib.hid hh1
  clear hb1 hh1
  go_wp2_with fail
  go_at_call 15
  refine (make_halt (fun W v hr => HG.out _ v haltF hr W (ag_self W)) HH1.out).mono ?_
  rintro e w2 ⟨fb, pb, g, c, rfl, hb2, hF, _⟩
  have HB2 := Lib.hid (bgo HB1.out hb2)
  have HF := Lib.hid hF
  clear hb2 hF
  go_wp2_with fail
  have bx := Lib.hid (below_box w2 (.cells #[.slice (some ⟨fb, 0, none⟩) 1 1, .int .i64 0] 24))
  have X2 := Lib.hid (new_cellsM (W := w2) (cs := [.slice (some ⟨fb, 0, none⟩) 1 1, .int .i64 0]) (t := 24) (b := w2.heap.size) (Below.refl _ _) rfl)
  go_at_call 5
  refine (large25_one (f := haltF) HF.out.flat _ ((ag_self w2).later bx.out) rfl (by decide) (by decide) (by decide) (by decide)).mono ?_
  rintro e w3 ⟨rfl, hb3⟩
  have B3 := Lib.hid (bgo bx.out hb3)
  have X3 := Lib.hid (X2.out.1.later hb3)
  clear hb3
  have x0 := X3.out.2 0 _ rfl
  have x1 := X3.out.2 1 _ rfl
  go_wp2_with fail
  go_at_call 9
  refine (HB.out _ _ haltF HF.out.flat _ ((ag_self w2).later B3.out)).mono ?_
  rintro e w4 ⟨he4, hb4⟩
  rw [haltF_good] at he4
  subst he4
  have B4 := Lib.hid (bgo B3.out hb4)
  have X4 := Lib.hid (X3.out.later hb4)
  clear hb4 x0 x1
  have x0 := X4.out.2 0 _ rfl
  have x1 := X4.out.2 1 _ rfl
  have l4 := X4.out.1
  go_wp2_with fail
  go_at_call 19
  have bi := Lib.hid (below_box w4 (.cells #[.int .i64 5] 3))
  refine (HR.out (fun a => (w4.alloc (.cells #[.int .i64 5] 3)).cell? a) _ (.slice (some ⟨w4.heap.size, 0, none⟩) 1 1) haltF [5] 9 (HF.out.mono (fun a v h => ((bgo B4.out bi.out).cell (World.block_lt_of_cell? _ _ h)).trans h)).flat ?_ (i64_few 9 (by omega) (by omega)) _ (ag_self _)).mono ?_
  · refine ⟨⟨some ⟨w4.heap.size, 0, none⟩, 1, rfl, by simp, by simp, fun _ => ⟨w4.heap.size, 0, rfl, fun i hi => ⟨rfl, fun k v hk => ?_⟩⟩⟩, fun x hx => ?_⟩
    · obtain rfl : i = 0 := by simp at hi; exact hi
      match k, hk with
      | 0, hk => simp at hk; subst hk; exact (new_cellsM (W := w4) (cs := [.int .i64 5]) (t := 3) (b := w4.heap.size) (Below.refl _ _) rfl).1.2 0 _ rfl
    · simp at hx; subst hx; exact i64_few 5 (by omega) (by omega)
  rintro e w5 ⟨vw, vs, he5, hb5, hw5, hs5⟩
  rw [haltRun.1] at he5
  obtain ⟨⟨sa, sc, rfl, _⟩, _⟩ := id hs5
  rw [haltRun.2] at he5
  obtain ⟨⟨wa, wc, rfl, _⟩, _⟩ := id hw5
  subst he5
  generalize (runF haltF [5] 9).e = re
  generalize (runF haltF [5] 9).steps = rs
  generalize (runF haltF [5] 9).made = rm
  generalize (runF haltF [5] 9).work = rw'
  generalize (runF haltF [5] 9).writes.length = wn
  have B5 := Lib.hid (bgo (bgo B4.out bi.out) hb5)
  clear hb5 hw5 hs5 x0 x1 l4
  go_wp2_with fail
  have b6 := Lib.hid (below_box w5 (.cells #[.int .i64 re, .slice wa wn wc, .slice sa 3 sc, .int .i64 rs, .int .i64 rm, .int .i64 rw'] 47))
  go_at_call 20
  refine (plain25h _).mono ?_
  rintro e w7 ⟨fb7, pb7, g7, rfl, hb7, hF7⟩
  have B7 := Lib.hid (bgo (bgo B5.out b6.out) hb7)
  have HF7 := Lib.hid hF7
  clear hb7 hF7
  go_wp2_with fail
  go_at_call 8
  refine (HG.out _ _ haltF HF7.out.flat _ (ag_self w7)).mono ?_
  rintro e w8 ⟨he8, hb8⟩
  rw [haltF_good] at he8
  subst he8
  have B8 := Lib.hid (bgo B7.out hb8)
  clear hb8
  go_wp2_with fail
  go_at_call 8
  refine (HG.out _ _ ⟨[], 0⟩ (emptyFlat (fun a => w8.cell? a)) _ (ag_self w8)).mono ?_
  rintro e w9 ⟨he9, hb9⟩
  rw [emptyBad] at he9
  subst he9
  go_wp2_with fail
  go_ret
  exact ⟨rfl, bgo HB2.out (bgo B8.out hb9)⟩
end Go.Proofs.Ytimljadlfhccpaa
