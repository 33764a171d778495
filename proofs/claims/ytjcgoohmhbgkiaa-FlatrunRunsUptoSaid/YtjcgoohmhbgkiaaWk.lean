/- A law that holds asks that a small program is answered: wakes. -/
import Derived.Test.YtjcgoohmhbgkiaaProg
import Derived.Test.YtjcgoohmhbgkiaaFlY
import Derived.Test.YtjcgoohmhbgkiaaMCp
set_option linter.all false
set_option linter.all false
set_option linter.all false
namespace Go.Proofs.Ytjcgoohmhbgkiaa
open Go.RowKit
set_option maxHeartbeats 4000000

def plainF : Flat := ⟨[(0, [0], .mk 2 1 3 false [] [⟨true, 0⟩, ⟨false, 7⟩] [] [.mk 8 0 0 false [] [⟨true, 1⟩] [] []])], 0⟩
theorem out_eq (o : Out) {e : Int} {ws sh : List Int} {st md wk : Nat} {er : Int} (h1 : o.e = e) (h2 : o.writes = ws) (h3 : o.shows = sh) (h4 : o.steps = st) (h5 : o.made = md) (h6 : o.work = wk) (h7 : o.err = er) : o = ⟨e, ws, sh, st, md, wk, er⟩ := by
  cases o
  simp only at h1 h2 h3 h4 h5 h6 h7
  subst h1 h2 h3 h4 h5 h6 h7
  rfl
theorem plain_runs : runF plainF [] 5 = ⟨1, [], [3, 0, 7], 0, 3, 2, 0⟩ := out_eq _ (by decide +kernel) (by decide +kernel) (by decide +kernel) (by decide +kernel) (by decide +kernel) (by decide +kernel) (by decide +kernel)
set_option maxRecDepth 100000 in
theorem plain22 (w : World) : Calls Try.prog 31 #[] w fun e w' => ∃ ab, e = .returned (.agg #[.int .i64 8, .int .i64 0, .int .i64 0, .bool false, .slice none 0 0, .slice (some ⟨ab, 0, none⟩) 1 1, .slice none 0 0, .slice none 0 0]) ∧ Below w.heap.size w w' := by
  go_enter Try.func31, Try.ntmps31
  go_wp2_with fail
  refine bodyPost_ret (v := .agg #[.int .i64 8, .int .i64 0, .int .i64 0, .bool false, .slice none 0 0, .slice (some ⟨w.heap.size + 1, 0, none⟩) 1 1, .slice none 0 0, .slice none 0 0]) (by simp [results, Try.results31, go_sem]) rfl ?_
  exact ⟨_, rfl, bgo (below_box _ _) (below_box _ _)⟩
def PlainPost (w : World) (e : Ending) (w' : World) : Prop := ∃ fb pb ab : Nat, e = .returned (.agg #[.slice (some ⟨fb, 0, none⟩) 1 1, .int .i64 0]) ∧ Below w.heap.size w w' ∧ w.heap.size ≤ fb ∧ w.heap.size ≤ pb ∧ pb < fb ∧ w'.cell? ⟨pb, 0, none⟩ = some (.int .i64 0) ∧ (∀ k, w'.frozen? ⟨fb, k, none⟩ = false) ∧
  BoxAt fb w' [.int .i64 0, .slice (some ⟨pb, 0, none⟩) 1 1, .int .i64 8, .int .i64 0, .int .i64 0, .bool false, .slice none 0 0, .slice (some ⟨ab, 0, none⟩) 1 1, .slice none 0 0, .slice none 0 0]
set_option maxRecDepth 100000 in
theorem plain25 (w : World) : Calls Try.prog 19 #[] w (PlainPost w) := by
  go_enter Try.func19, Try.ntmps19
  go_wp2_with (go_at_call 31; refine (plain22 _).mono ?_; rintro e w1 ⟨ab, rfl, hb1⟩; obtain ⟨gb, gz⟩ := new_cells (cs := [.slice none 0 0, .int .i64 0]) (bgo (below_box _ _) hb1) (b := w.heap.size) (by simp); obtain ⟨kb, kz⟩ := new_cells (cs := [.int .i64 0]) hb1 (b := w.heap.size + 1) (by simp); have g0 := gb.2 0 _ rfl; have g1 := gb.2 1 _ rfl; have z0 := gz 0; have z1 := gz 1; have k0 := kb.2 0 _ rfl; have gs := gb.1; have gs1 := kb.1; have gn0 : ¬ w.heap.size = w1.heap.size := (by omega); have HB1 := Lib.hid hb1; clear gb gz kb kz hb1)
  have gx := new_cells (W := (w1.setCell ⟨w.heap.size, 0, none⟩ (.slice (some ⟨w1.heap.size, 0, none⟩) 1 1)).setCell ⟨w.heap.size, 1, none⟩ (.int .i64 0)) (cs := [.int .i64 0, .slice (some ⟨w.heap.size + 1, 0, none⟩) 1 1, .int .i64 8, .int .i64 0, .int .i64 0, .bool false, .slice none 0 0, .slice (some ⟨ab, 0, none⟩) 1 1, .slice none 0 0, .slice none 0 0]) (t := 54) (b := w1.heap.size) (Below.refl _ _) (by simp)
  have hk1 : Kept [w.heap.size] w1 ((w1.setCell ⟨w.heap.size, 0, none⟩ (.slice (some ⟨w1.heap.size, 0, none⟩) 1 1)).setCell ⟨w.heap.size, 1, none⟩ (.int .i64 0)) := (kept_setCell (by simp) w1 0 _).trans (kept_setCell (by simp) _ 1 _)
  have hkk := hk1.trans (Kept.below (below_box _ (.cells #[.int .i64 0, .slice (some ⟨w.heap.size + 1, 0, none⟩) 1 1, .int .i64 8, .int .i64 0, .int .i64 0, .bool false, .slice none 0 0, .slice (some ⟨ab, 0, none⟩) 1 1, .slice none 0 0, .slice none 0 0] 54)))
  have hbel : Below w.heap.size w w1 := bgo (bgo (below_box _ _) (below_box _ _)) HB1.out
  refine bodyPost_ret (v := .agg #[.slice (some ⟨w1.heap.size, 0, none⟩) 1 1, .int .i64 0]) (by simp [results, Try.results19, go_sem, g0, g1, gs, gn0]) rfl ?_
  exact ⟨w1.heap.size, w.heap.size + 1, ab, rfl, hbel.trans (hkk.toBelow hbel.size (by simp)), by omega, by omega, gs1, hkk.cell k0 (by simp), gx.2, gx.1⟩
/-- The small program, in memory. -/
structure PlainAt (M : Mp) (fb pb a1 a2 n1 : Nat) : Prop where
  f : ∀ k v, [Value.int .i64 0, .slice (some ⟨pb, 0, none⟩) 1 1, .int .i64 2, .int .i64 1, .int .i64 3, .bool false, .slice none 0 0, .slice (some ⟨a1, 0, none⟩) 2 2, .slice none 0 0, .slice (some ⟨n1, 0, none⟩) 1 1][k]? = some v → M ⟨fb, k, none⟩ = some v
  p : M ⟨pb, 0, none⟩ = some (.int .i64 0)
  a : ∀ k v, [Value.bool true, .int .i64 0, .bool false, .int .i64 7][k]? = some v → M ⟨a1, k, none⟩ = some v
  b : ∀ k v, [Value.bool true, .int .i64 1][k]? = some v → M ⟨a2, k, none⟩ = some v
  n : ∀ k v, [Value.int .i64 8, .int .i64 0, .int .i64 0, .bool false, .slice none 0 0, .slice (some ⟨a2, 0, none⟩) 1 1, .slice none 0 0, .slice none 0 0][k]? = some v → M ⟨n1, k, none⟩ = some v
theorem i64_small (n : Int) (h : 0 ≤ n) (h2 : n < 100) : I64 n := ⟨by omega, by omega⟩
theorem ratoms_nil (m : Mp) : RAtoms m (.slice none 0 0) [] := ⟨⟨none, 0, rfl, by simp, by simp, by simp⟩, by simp⟩
theorem PlainAt.flat {M : Mp} {fb pb a1 a2 n1 : Nat} (h : PlainAt M fb pb a1 a2 n1) : RFlat M (.slice (some ⟨fb, 0, none⟩) 1 1) plainF := by
  refine ⟨⟨⟨fun _ => [Value.int .i64 0, .slice (some ⟨pb, 0, none⟩) 1 1, .int .i64 2, .int .i64 1, .int .i64 3, .bool false, .slice none 0 0, .slice (some ⟨a1, 0, none⟩) 2 2, .slice none 0 0, .slice (some ⟨n1, 0, none⟩) 1 1], fun _ => [.int .i64 2, .int .i64 1, .int .i64 3, .bool false, .slice none 0 0, .slice (some ⟨a1, 0, none⟩) 2 2, .slice none 0 0, .slice (some ⟨n1, 0, none⟩) 1 1], fun _ => .slice (some ⟨pb, 0, none⟩) 1 1, ?_, ?_, ?_⟩⟩, i64_small 0 (by omega) (by omega)⟩
  · refine ⟨some ⟨fb, 0, none⟩, 1, rfl, by simp [plainF], by simp [plainF], fun _ => ⟨fb, 0, rfl, fun i hi => ⟨rfl, fun k v hk => ?_⟩⟩⟩
    obtain rfl : i = 0 := by simp [plainF] at hi; exact hi
    simpa using h.f k v hk
  · intro i f hf
    match i, hf with
    | 0, hf =>
      simp [plainF] at hf
      subst hf
      refine ⟨rfl, ⟨⟨some ⟨pb, 0, none⟩, 1, rfl, by simp, by simp, fun _ => ⟨pb, 0, rfl, fun i hi => ⟨rfl, fun k v hk => ?_⟩⟩⟩, fun x hx => ?_⟩, i64_small 0 (by omega) (by omega)⟩
      · obtain rfl : i = 0 := by simp at hi; exact hi
        match k, hk with
        | 0, hk => simp at hk; subst hk; exact h.p
      · simp at hx; subst hx; exact i64_small 0 (by omega) (by omega)
  · intro i f hf
    match i, hf with
    | 0, hf =>
      simp [plainF] at hf
      subst hf
      refine .mk 2 1 3 false [] [⟨true, 0⟩, ⟨false, 7⟩] [] [.mk 8 0 0 false [] [⟨true, 1⟩] [] []] _ _ _ _ (fun _ => []) (fun _ => [.int .i64 8, .int .i64 0, .int .i64 0, .bool false, .slice none 0 0, .slice (some ⟨a2, 0, none⟩) 1 1, .slice none 0 0, .slice none 0 0]) (fun _ => []) (fun _ => .bool false) (i64_small _ (by omega) (by omega)) (i64_small _ (by omega) (by omega)) (i64_small _ (by omega) (by omega)) (RInts.nil M) ?_ ⟨none, 0, rfl, by simp, by simp, by simp⟩ ?_ (by simp) (by simp) ?_
      · refine ⟨⟨some ⟨a1, 0, none⟩, 2, rfl, by simp, by simp, fun _ => ⟨a1, 0, rfl, fun i hi => ⟨rfl, fun k v hk => ?_⟩⟩⟩, fun x hx => ?_⟩
        · match i, k, hk with
          | 0, 0, hk => exact h.a 0 v hk
          | 0, 1, hk => exact h.a 1 v hk
          | 1, 0, hk => exact h.a 2 v hk
          | 1, 1, hk => exact h.a 3 v hk
          | n + 2, k, hk => exact absurd (show n + 2 < 2 from hi) (by omega)
        · simp at hx
          rcases hx with rfl | rfl <;> exact i64_small _ (by simp) (by simp)
      · refine ⟨some ⟨n1, 0, none⟩, 1, rfl, by simp, by simp, fun _ => ⟨n1, 0, rfl, fun i hi => ⟨rfl, fun k v hk => ?_⟩⟩⟩
        obtain rfl : i = 0 := by simp at hi; exact hi
        simpa using h.n k v hk
      · intro i t ht
        match i, ht with
        | 0, ht =>
          simp at ht
          subst ht
          refine .mk 8 0 0 false [] [⟨true, 1⟩] [] [] _ _ _ _ (fun _ => []) (fun _ => []) (fun _ => []) (fun _ => .bool false) (i64_small _ (by omega) (by omega)) (i64_small _ (by omega) (by omega)) (i64_small _ (by omega) (by omega)) (RInts.nil M) ?_ ⟨none, 0, rfl, by simp, by simp, by simp⟩ ⟨none, 0, rfl, by simp, by simp, by simp⟩ (by simp) (by simp) (by simp)
          refine ⟨⟨some ⟨a2, 0, none⟩, 1, rfl, by simp, by simp, fun _ => ⟨a2, 0, rfl, fun i hi => ⟨rfl, fun k v hk => ?_⟩⟩⟩, fun x hx => ?_⟩
          · match i, k, hk with
            | 0, 0, hk => exact h.b 0 v hk
            | 0, 1, hk => exact h.b 1 v hk
            | n + 1, k, hk => simp at hi
          · simp at hx; subst hx; exact i64_small _ (by simp) (by simp)
theorem gen_world {P : Program} {n : FuncId} {args : Array Value} {W : World} {Q : Ending → World → Prop} (F : World → Prop) (h1 : F W) (h2 : ∀ W', F W' → Calls P n args W' Q) : Calls P n args W Q := h2 W h1
/-- What stands where the small program is run. -/
structure WkAt (w : World) (fb pb b : Nat) (W : World) : Prop where
  bel : Below w.heap.size w W
  at_ : PlainAt (newM w W) fb pb (b + 1) (b + 1 + 1) (b + 1 + 1 + 1)
  c0 : W.cell? ⟨b, 0, none⟩ = some (.slice (some ⟨fb, 0, none⟩) 1 1)
  c1 : W.cell? ⟨b, 1, none⟩ = some (.int .i64 0)
set_option maxRecDepth 100000 in
theorem wkAt_of {w w1 : World} {fb pb ab : Nat} (hb1 : Below w.heap.size w w1) (hf1 : w.heap.size ≤ fb) (hp1 : w.heap.size ≤ pb) (hpf : pb < fb) (hpc : w1.cell? ⟨pb, 0, none⟩ = some (.int .i64 0)) (gx : BoxAt fb w1 [.int .i64 0, .slice (some ⟨pb, 0, none⟩) 1 1, .int .i64 8, .int .i64 0, .int .i64 0, .bool false, .slice none 0 0, .slice (some ⟨ab, 0, none⟩) 1 1, .slice none 0 0, .slice none 0 0]) :
    WkAt w fb pb w1.heap.size ((((((((((((w1.setCell ⟨fb, 2, none⟩ (.int .i64 2)).setCell ⟨fb, 3, none⟩ (.int .i64 1)).setCell ⟨fb, 4, none⟩ (.int .i64 3)).setCell ⟨fb, 5, none⟩ (.bool false)).setCell ⟨fb, 6, none⟩ (.slice none 0 0)).setCell ⟨fb, 7, none⟩ (.slice (some ⟨w1.heap.size + 1, 0, none⟩) 2 2)).setCell ⟨fb, 8, none⟩ (.slice none 0 0)).setCell ⟨fb, 9, none⟩ (.slice (some ⟨w1.heap.size + 1 + 1 + 1, 0, none⟩) 1 1)).alloc (.cells #[.slice (some ⟨fb, 0, none⟩) 1 1, .int .i64 0] 24)).alloc
      (.cells #[.bool true, .int .i64 0, .bool false, .int .i64 7] 52)).alloc (.cells #[.bool true, .int .i64 1] 52)).alloc (.cells #[.int .i64 8, .int .i64 0, .int .i64 0, .bool false, .slice none 0 0, .slice (some ⟨w1.heap.size + 1 + 1, 0, none⟩) 1 1, .slice none 0 0, .slice none 0 0] 49)) := by
  have f0 := gx.2 0 _ rfl
  have f1 := gx.2 1 _ rfl
  have f2 := gx.2 2 _ rfl
  have f3 := gx.2 3 _ rfl
  have f4 := gx.2 4 _ rfl
  have f5 := gx.2 5 _ rfl
  have f6 := gx.2 6 _ rfl
  have f7 := gx.2 7 _ rfl
  have f8 := gx.2 8 _ rfl
  have f9 := gx.2 9 _ rfl
  have ltf := gx.1
  have hs1 := hb1.size
  obtain ⟨W8, h8, c2, c3, c4, c5, c6, c7, c8, c9⟩ : ∃ W8, W8 = ((((((((w1.setCell ⟨fb, 2, none⟩ (.int .i64 2)).setCell ⟨fb, 3, none⟩ (.int .i64 1)).setCell ⟨fb, 4, none⟩ (.int .i64 3)).setCell ⟨fb, 5, none⟩ (.bool false)).setCell ⟨fb, 6, none⟩ (.slice none 0 0)).setCell ⟨fb, 7, none⟩ (.slice (some ⟨w1.heap.size + 1, 0, none⟩) 2 2)).setCell ⟨fb, 8, none⟩ (.slice none 0 0)).setCell ⟨fb, 9, none⟩ (.slice (some ⟨w1.heap.size + 1 + 1 + 1, 0, none⟩) 1 1)) ∧
      W8.cell? ⟨fb, 2, none⟩ = some (.int .i64 2) ∧ W8.cell? ⟨fb, 3, none⟩ = some (.int .i64 1) ∧ W8.cell? ⟨fb, 4, none⟩ = some (.int .i64 3) ∧ W8.cell? ⟨fb, 5, none⟩ = some (.bool false) ∧ W8.cell? ⟨fb, 6, none⟩ = some (.slice none 0 0) ∧ W8.cell? ⟨fb, 7, none⟩ = some (.slice (some ⟨w1.heap.size + 1, 0, none⟩) 2 2) ∧ W8.cell? ⟨fb, 8, none⟩ = some (.slice none 0 0) ∧ W8.cell? ⟨fb, 9, none⟩ = some (.slice (some ⟨w1.heap.size + 1 + 1 + 1, 0, none⟩) 1 1) := by
    refine ⟨_, rfl, ?_, ?_, ?_, ?_, ?_, ?_, ?_, ?_⟩ <;> simp [go_sem, f2, f3, f4, f5, f6, f7, f8, f9]
  have hk : Kept [fb] w1 W8 := by
    rw [h8]
    exact (((((((kept_setCell (by simp) w1 2 _).trans (kept_setCell (by simp) _ 3 _)).trans (kept_setCell (by simp) _ 4 _)).trans (kept_setCell (by simp) _ 5 _)).trans (kept_setCell (by simp) _ 6 _)).trans (kept_setCell (by simp) _ 7 _)).trans (kept_setCell (by simp) _ 8 _)).trans (kept_setCell (by simp) _ 9 _)
  have hsz : W8.heap.size = w1.heap.size := by rw [h8]; simp only [size_setCell]
  have e0 : W8.cell? ⟨fb, 0, none⟩ = some (.int .i64 0) := by rw [h8]; simp [go_sem, f0]
  have e1 : W8.cell? ⟨fb, 1, none⟩ = some (.slice (some ⟨pb, 0, none⟩) 1 1) := by rw [h8]; simp [go_sem, f1]
  have ep : W8.cell? ⟨pb, 0, none⟩ = some (.int .i64 0) := hk.cell hpc (by simp; omega)
  rw [← h8]
  clear h8
  have b1 := below_box W8 (.cells #[.slice (some ⟨fb, 0, none⟩) 1 1, .int .i64 0] 24)
  have B0 := BoxAt.new' W8 [.slice (some ⟨fb, 0, none⟩) 1 1, .int .i64 0] 24 w1.heap.size hsz.symm
  have b2 := below_box (W8.alloc (.cells #[.slice (some ⟨fb, 0, none⟩) 1 1, .int .i64 0] 24)) (.cells #[.bool true, .int .i64 0, .bool false, .int .i64 7] 52)
  have B1 := BoxAt.new' (W8.alloc (.cells #[.slice (some ⟨fb, 0, none⟩) 1 1, .int .i64 0] 24)) [.bool true, .int .i64 0, .bool false, .int .i64 7] 52 (w1.heap.size + 1) (by simp [hsz])
  have b3 := below_box ((W8.alloc (.cells #[.slice (some ⟨fb, 0, none⟩) 1 1, .int .i64 0] 24)).alloc (.cells #[.bool true, .int .i64 0, .bool false, .int .i64 7] 52)) (.cells #[.bool true, .int .i64 1] 52)
  have B2 := BoxAt.new' ((W8.alloc (.cells #[.slice (some ⟨fb, 0, none⟩) 1 1, .int .i64 0] 24)).alloc (.cells #[.bool true, .int .i64 0, .bool false, .int .i64 7] 52)) [.bool true, .int .i64 1] 52 (w1.heap.size + 1 + 1) (by simp [hsz])
  have b4 := below_box (((W8.alloc (.cells #[.slice (some ⟨fb, 0, none⟩) 1 1, .int .i64 0] 24)).alloc (.cells #[.bool true, .int .i64 0, .bool false, .int .i64 7] 52)).alloc (.cells #[.bool true, .int .i64 1] 52)) (.cells #[.int .i64 8, .int .i64 0, .int .i64 0, .bool false, .slice none 0 0, .slice (some ⟨w1.heap.size + 1 + 1, 0, none⟩) 1 1, .slice none 0 0, .slice none 0 0] 49)
  have B3 := BoxAt.new' (((W8.alloc (.cells #[.slice (some ⟨fb, 0, none⟩) 1 1, .int .i64 0] 24)).alloc (.cells #[.bool true, .int .i64 0, .bool false, .int .i64 7] 52)).alloc (.cells #[.bool true, .int .i64 1] 52)) [.int .i64 8, .int .i64 0, .int .i64 0, .bool false, .slice none 0 0, .slice (some ⟨w1.heap.size + 1 + 1, 0, none⟩) 1 1, .slice none 0 0, .slice none 0 0] 49 (w1.heap.size + 1 + 1 + 1) (by simp [hsz])
  have b14 := bgo (bgo (bgo b1 b2) b3) b4
  have B0' := B0.later (bgo (bgo b2 b3) b4)
  have B1' := B1.later (bgo b3 b4)
  have B2' := B2.later b4
  have old : ∀ {k v}, W8.cell? ⟨fb, k, none⟩ = some v → newM w _ ⟨fb, k, none⟩ = some v := fun h => newM_of ((b14.cell (World.block_lt_of_cell? _ _ h)).trans h) hf1
  refine ⟨(hb1.trans (hk.toBelow hs1 (by simpa using hf1))).trans (b14.mono (by omega)), ⟨fun k v hk => ?_, newM_of ((b14.cell (World.block_lt_of_cell? _ _ ep)).trans ep) hp1, fun k v hk => newM_of (B1'.2 k v hk) (by show w.heap.size ≤ w1.heap.size + 1; omega), fun k v hk => newM_of (B2'.2 k v hk) (by show w.heap.size ≤ w1.heap.size + 1 + 1; omega), fun k v hk => newM_of (B3.2 k v hk) (by show w.heap.size ≤ w1.heap.size + 1 + 1 + 1; omega)⟩, B0'.2 0 _ rfl, B0'.2 1 _ rfl⟩
  match k, hk with
  | 0, hk => simp at hk; subst hk; exact old e0
  | 1, hk => simp at hk; subst hk; exact old e1
  | 2, hk => simp at hk; subst hk; exact old c2
  | 3, hk => simp at hk; subst hk; exact old c3
  | 4, hk => simp at hk; subst hk; exact old c4
  | 5, hk => simp at hk; subst hk; exact old c5
  | 6, hk => simp at hk; subst hk; exact old c6
  | 7, hk => simp at hk; subst hk; exact old c7
  | 8, hk => simp at hk; subst hk; exact old c8
  | 9, hk => simp at hk; subst hk; exact old c9
theorem ag_new (w W : World) : Ag (newM w W) W := fun _ _ h => newM_cell h
theorem wkRun {w W wx : World} {fb pb b : Nat} (h : WkAt w fb pb b W) (hb : Below W.heap.size W wx) : Calls Try.prog 9 #[.agg #[.slice (some ⟨fb, 0, none⟩) 1 1, .int .i64 0], .slice none 0 0, .int .i64 5] wx (fun e w' => ∃ (sa : Option Addr) (sc : Nat) (vw : Value), e = .returned (.tuple #[.agg #[.int .i64 1, vw, .slice sa 3 sc], .int .i64 0]) ∧ (∃ a n c, vw = .slice a n c) ∧ Below wx.heap.size wx w' ∧ RInts (newM wx w') (.slice sa 3 sc) [3, 0, 7]) := by
  refine (flRun (f := plainF) (l := []) h.at_.flat 5 wx ((ag_new w W).later hb) (RInts.nil _)).mono ?_
  rintro e w' ⟨vw, vs, rfl, hb', hw, hs⟩
  rw [plain_runs] at hw hs ⊢
  obtain ⟨⟨sa, sc, rfl, _⟩, _⟩ := id hs
  exact ⟨sa, sc, vw, rfl, rints_slice hw, hb', hs⟩
theorem wkMade {w W wx : World} {fb pb b : Nat} (h : WkAt w fb pb b W) (hb : Below W.heap.size W wx) : Calls Try.prog 14 #[.agg #[.slice (some ⟨fb, 0, none⟩) 1 1, .int .i64 0], .slice none 0 0, .int .i64 5] wx (fun e w' => e = .returned (.int .i64 3) ∧ Below wx.heap.size wx w') := by
  have := flMade (f := plainF) (l := []) h.at_.flat 5 wx ((ag_new w W).later hb) (RInts.nil _)
  rw [plain_runs] at this
  exact this
theorem wkWork {w W wx : World} {fb pb b : Nat} (h : WkAt w fb pb b W) (hb : Below W.heap.size W wx) : Calls Try.prog 15 #[.agg #[.slice (some ⟨fb, 0, none⟩) 1 1, .int .i64 0], .slice none 0 0, .int .i64 5] wx (fun e w' => e = .returned (.int .i64 2) ∧ Below wx.heap.size wx w') := by
  have := flWork (f := plainF) (l := []) h.at_.flat 5 wx ((ag_new w W).later hb) (RInts.nil _)
  rw [plain_runs] at this
  exact this
theorem wkSteps {w W wx : World} {fb pb b : Nat} (h : WkAt w fb pb b W) (hb : Below W.heap.size W wx) : Calls Try.prog 13 #[.agg #[.slice (some ⟨fb, 0, none⟩) 1 1, .int .i64 0], .slice none 0 0, .int .i64 5] wx (fun e w' => e = .returned (.int .i64 0) ∧ Below wx.heap.size wx w') := by
  have := flSteps (f := plainF) (l := []) h.at_.flat 5 wx ((ag_new w W).later hb) (RInts.nil _)
  rw [plain_runs] at this
  exact this
theorem rints_new (W : World) (l : List Int) (hl : 0 < l.length) (hb : l.length ≤ 140737488355328) (hi : ∀ x ∈ l, I64 x) (ty : TypeId) (w0 : World) (h : w0.heap.size ≤ W.heap.size) : RInts (newM w0 (W.alloc (.cells (l.map (Value.int .i64)).toArray ty))) (.slice (some ⟨W.heap.size, 0, none⟩) l.length l.length) l := by
  refine ⟨⟨some ⟨W.heap.size, 0, none⟩, l.length, rfl, Nat.le_refl _, hb, fun _ => ⟨W.heap.size, 0, rfl, fun i hi => ⟨rfl, fun k v hk => ?_⟩⟩⟩, hi⟩
  match k, hk with
  | 0, hk =>
    simp at hk
    subst hk
    refine newM_of ((BoxAt.new W (l.map (Value.int .i64)) ty).2 _ _ ?_) h
    simp [List.getD_eq_getElem?_getD, hi]
theorem wkSame {wx w2 Wc : World} {sa : Option Addr} {sc b : Nat} (hbb : b = Wc.heap.size) (hs : RInts (newM wx w2) (.slice sa 3 sc) [3, 0, 7]) (hb2 : Below wx.heap.size wx w2) (hb : Below w2.heap.size w2 Wc) : Calls Try.prog 20 #[.slice sa 3 sc, .slice (some ⟨b, 0, none⟩) 3 3] (Wc.alloc (.cells #[.int .i64 3, .int .i64 0, .int .i64 7] 3)) fun e w' => e = .returned (.bool true) ∧ Below Wc.heap.size (Wc.alloc (.cells #[.int .i64 3, .int .i64 0, .int .i64 7] 3)) w' := by
  subst hbb
  have hbA := bgo hb (below_box Wc (.cells #[.int .i64 3, .int .i64 0, .int .i64 7] 3))
  have h1 := hs.mono (newM_trans hb2.size hbA)
  have h2 := rints_new Wc [3, 0, 7] (by simp) (by simp) (by simp; exact ⟨i64_small _ (by omega) (by omega), i64_small _ (by omega) (by omega), i64_small _ (by omega) (by omega)⟩) 3 wx (Nat.le_trans hb2.size hb.size)
  refine (kSame h1 h2 _ (ag_new _ _)).mono ?_
  rintro e w' ⟨rfl, n, rfl⟩
  exact ⟨rfl, below_drewN (Below.refl _ _) _⟩
set_option maxRecDepth 100000 in
set_option maxHeartbeats 400000 in
theorem wakes (w : World) : Calls Try.prog 7 #[] w fun e w' => e = .returned (.bool true) ∧ Below w.heap.size w w' := by
  go_enter Try.func7, Try.ntmps7
  go_wp2_with (first | (go_at_call 19; refine (plain25 _).mono ?_; rintro e w1 ⟨fb, pb, ab, rfl, hb1, hf1, hp1, hpf, hpc, fz, gx⟩; have f2 := gx.2 2 _ rfl; have f3 := gx.2 3 _ rfl; have f4 := gx.2 4 _ rfl; have f5 := gx.2 5 _ rfl; have f6 := gx.2 6 _ rfl; have f7 := gx.2 7 _ rfl; have f8 := gx.2 8 _ rfl; have f9 := gx.2 9 _ rfl; have f0 := gx.2 0 _ rfl; have f1 := gx.2 1 _ rfl; have ltf := gx.1; have nef : ¬ fb = w1.heap.size := (by omega); have nef1 : ¬ fb = w1.heap.size + 1 := (by omega); have nef2 : ¬ fb = w1.heap.size + 1 + 1 := (by omega); have nef3 : ¬ fb = w1.heap.size + 1 + 1 + 1 := (by omega); have ltf1 : fb < w1.heap.size + 1 := (by omega); have ltf2 : fb < w1.heap.size + 1 + 1 := (by omega); have ltf3 : fb < w1.heap.size + 1 + 1 + 1 := (by omega); have ltf4 : fb < w1.heap.size + 1 + 1 + 1 + 1 := (by omega)) |
    (go_at_call 9; refine gen_world (WkAt w fb pb w1.heap.size) (wkAt_of hb1 hf1 hp1 hpf hpc gx) ?_; generalize w1.heap.size = b; clear f0 f1 f2 f3 f4 f5 f6 f7 f8 f9 gx fz hpc hpf hp1 hf1 hb1; intro W HW; refine (wkRun HW (Below.refl _ _)).mono ?_; rintro e w2 ⟨sa, sc, vw, rfl, ⟨wa, wn, wc, rfl⟩, hb2, hs⟩; have d0 := (hb2.cell (World.block_lt_of_cell? _ _ HW.c0)).trans HW.c0; have d1 := (hb2.cell (World.block_lt_of_cell? _ _ HW.c1)).trans HW.c1; have dl := World.block_lt_of_cell? _ _ d0; have dn : ¬ b = w2.heap.size := (by simp at dl; omega)) |
    (go_at_call 20; refine (wkSame (by simp) hs hb2 (below_box _ _)).mono ?_; rintro e w3 ⟨rfl, hb3⟩; have hB3 : Below W.heap.size W w3 := bgo (bgo hb2 (below_box _ _)) ((below_box _ _).trans hb3); have e0 := (hB3.cell (World.block_lt_of_cell? _ _ HW.c0)).trans HW.c0; have e1 := (hB3.cell (World.block_lt_of_cell? _ _ HW.c1)).trans HW.c1) |
    (go_at_call 14; refine (wkMade HW hB3).mono ?_; rintro e w4 ⟨rfl, hb4⟩; have hB4 : Below W.heap.size W w4 := bgo hB3 hb4; have g0 := (hB4.cell (World.block_lt_of_cell? _ _ HW.c0)).trans HW.c0; have g1 := (hB4.cell (World.block_lt_of_cell? _ _ HW.c1)).trans HW.c1) |
    (go_at_call 15; refine (wkWork HW hB4).mono ?_; rintro e w5 ⟨rfl, hb5⟩; have hB5 : Below W.heap.size W w5 := bgo hB4 hb5; have k0 := (hB5.cell (World.block_lt_of_cell? _ _ HW.c0)).trans HW.c0; have k1 := (hB5.cell (World.block_lt_of_cell? _ _ HW.c1)).trans HW.c1) |
    (go_at_call 13; refine (wkSteps HW hB5).mono ?_; rintro e w6 ⟨rfl, hb6⟩) |
    fail)
  go_ret
  exact ⟨rfl, HW.bel.trans ((bgo hB5 hb6).mono HW.bel.size)⟩
end Go.Proofs.Ytjcgoohmhbgkiaa
