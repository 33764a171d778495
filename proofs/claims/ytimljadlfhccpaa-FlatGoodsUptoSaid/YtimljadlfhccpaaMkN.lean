/- A run that the laws of layer 25 ask for: flat.Make's body, at one small term. A run that the laws of layer 25 ask for: flat.Make, at one small term. -/
import Derived.Test.YtimljadlfhccpaaProg
import Derived.Test.YtimljadlfhccpaaMkM
import Derived.Test.YtimljadlfhccpaaMRel
set_option linter.all false
set_option linter.all false
namespace Go.Proofs.Ytimljadlfhccpaa
open Go.RowKit
set_option maxHeartbeats 4000000

theorem new_cellsM {W w1 : World} {cs : List Value} {t : TypeId} {b : Nat} (hb : Below (W.alloc (.cells cs.toArray t)).heap.size (W.alloc (.cells cs.toArray t)) w1) (hn : b = W.heap.size) : BoxAt b w1 cs ∧ ∀ j, w1.frozen? ⟨b, j, none⟩ = false := by
  subst hn
  exact ⟨(BoxAt.new W cs t).later hb, fun j => (hb.frozen (p := ⟨W.heap.size, j, none⟩) (by simp)).trans (World.frozen?_alloc_at _ _ _ _ rfl)⟩
/-- What the parts of the new term are. -/
def bdPost (B ab : Nat) : Nat → Value → World → Prop
  | 0, v, _ => v = .pointer (some ⟨B, 0, none⟩)
  | 1, v, _ => v = .int .i64 8
  | 2, v, _ => v = .pointer (some ⟨B, 1, none⟩)
  | 3, v, _ => v = .int .i64 0
  | 4, v, _ => v = .pointer (some ⟨B, 2, none⟩)
  | 5, v, _ => v = .int .i64 0
  | 6, v, _ => v = .pointer (some ⟨B, 3, none⟩)
  | 7, v, _ => v = .bool false
  | 8, v, _ => v = .pointer (some ⟨B, 4, none⟩)
  | 9, v, _ => v = .slice none 0 0
  | 10, v, _ => v = .slice none 0 0
  | 11, v, _ => v = .pointer (some ⟨B, 5, none⟩)
  | 12, v, _ => v = .slice (some ⟨ab, 0, none⟩) 1 1
  | 13, v, w => ∃ g c : Nat, v = .slice (some ⟨g, 0, none⟩) 1 c ∧ (B + 2 ≤ g ∧ 1 ≤ c) ∧ w.cell? ⟨g, 0, none⟩ = some (.bool true) ∧ w.cell? ⟨g, 1, none⟩ = some (.int .i64 0)
  | 14, v, w => ∃ g c : Nat, v = .agg #[.int .i64 8, .int .i64 0, .int .i64 0, .bool false, .slice none 0 0, .slice (some ⟨g, 0, none⟩) 1 c, .slice none 0 0, .slice none 0 0] ∧ (B + 2 ≤ g ∧ 1 ≤ c) ∧ w.cell? ⟨g, 0, none⟩ = some (.bool true) ∧ w.cell? ⟨g, 1, none⟩ = some (.int .i64 0)
  | 15, v, w => ∃ b : Nat, v = .pointer (some ⟨b, 0, none⟩) ∧ B + 2 ≤ b ∧ BoxAt b w [.int .i64 0, .int .i64 0, .int .i64 0, .bool false, .slice none 0 0, .slice none 0 0, .slice none 0 0, .slice none 0 0] ∧ ∀ j, w.frozen? ⟨b, j, none⟩ = false
  | _, _, _ => True
theorem bdPost_stable {B ab : Nat} : ∀ i v w w', bdPost B ab i v w → Below w.heap.size w w' → bdPost B ab i v w' := by
  intro i v w w' h hb
  match i, h with
  | 0, h => exact h
  | 1, h => exact h
  | 2, h => exact h
  | 3, h => exact h
  | 4, h => exact h
  | 5, h => exact h
  | 6, h => exact h
  | 7, h => exact h
  | 8, h => exact h
  | 9, h => exact h
  | 10, h => exact h
  | 11, h => exact h
  | 12, h => exact h
  | 13, ⟨g, c, h1, h2, h3, h4⟩ => exact ⟨g, c, h1, h2, (hb.cell (World.block_lt_of_cell? _ _ h3)).trans h3, (hb.cell (World.block_lt_of_cell? _ _ h4)).trans h4⟩
  | 14, ⟨g, c, h1, h2, h3, h4⟩ => exact ⟨g, c, h1, h2, (hb.cell (World.block_lt_of_cell? _ _ h3)).trans h3, (hb.cell (World.block_lt_of_cell? _ _ h4)).trans h4⟩
  | 15, ⟨b, h1, h2, h3, h4⟩ => exact ⟨b, h1, h2, h3.later hb, fun j => (hb.frozen (p := ⟨b, j, none⟩) h3.1).trans (h4 j)⟩
  | n + 16, h => trivial
theorem body_end {w w3 W w5 W8 : World} {mb g b : Nat} (hlt : mb < w.heap.size) (h3 : Below w.heap.size w w3) (hb : w.heap.size + 2 ≤ b) (hkb : Kept [b] w3 W) (hgb : g ≠ b) (hk5 : Kept [mb] W w5) (hc5 : ∀ j, j ≠ 3 → w5.cell? ⟨mb, j, none⟩ = W.cell? ⟨mb, j, none⟩) (hz5 : ∀ j, w5.frozen? ⟨mb, j, none⟩ = W.frozen? ⟨mb, j, none⟩)
    (hg : w.heap.size + 2 ≤ g) (k0 : w3.cell? ⟨g, 0, none⟩ = some (.bool true)) (k1 : w3.cell? ⟨g, 1, none⟩ = some (.int .i64 0)) (k8 : Kept [w.heap.size + 1] w5 W8) :
    Kept [mb] w W8 ∧ (∀ j, j ≠ 3 → W8.cell? ⟨mb, j, none⟩ = w.cell? ⟨mb, j, none⟩) ∧ (∀ j, W8.frozen? ⟨mb, j, none⟩ = w.frozen? ⟨mb, j, none⟩) ∧ w.heap.size ≤ g ∧ W8.cell? ⟨g, 0, none⟩ = some (.bool true) ∧ W8.cell? ⟨g, 1, none⟩ = some (.int .i64 0) := by
  have hs3 := h3.size
  have hsb := hkb.size
  have hs5 := hk5.size
  have hA : ∀ k, k < w.heap.size → k ≠ mb → W8.heap[k]? = w.heap[k]? := fun k hk hm =>
    (k8.block k (by omega) (by simp; omega)).trans ((hk5.block k (by omega) (by simpa using hm)).trans ((hkb.block k (by omega) (by simp; omega)).trans (h3.block k hk)))
  have cellG : ∀ (j : Nat) (v : Value), w3.cell? ⟨g, j, none⟩ = some v → W8.cell? ⟨g, j, none⟩ = some v := fun j v h => k8.cell (hk5.cell (hkb.cell h (by simpa using hgb)) (by simp; omega)) (by simp; omega)
  refine ⟨⟨k8.os.trans (hk5.os.trans (hkb.os.trans h3.os)), k8.tape.trans (hk5.tape.trans (hkb.tape.trans h3.tape)), k8.output.trans (hk5.output.trans (hkb.output.trans h3.output)), Nat.le_trans hs3 (Nat.le_trans hsb (Nat.le_trans hs5 k8.size)), fun k hk hm => hA k hk (by simpa using hm)⟩, fun j hj => ?_, fun j => ?_, by omega, cellG 0 _ k0, cellG 1 _ k1⟩
  · exact (World.cell?_of_block (k8.block mb (by omega) (by simp; omega))).trans ((hc5 j hj).trans ((World.cell?_of_block (hkb.block mb (by omega) (by simp; omega))).trans (h3.cell hlt)))
  · exact (World.frozen?_of_block (a := ⟨mb, j, none⟩) (k8.block mb (by omega) (by simp; omega))).trans ((hz5 j).trans ((World.frozen?_of_block (a := ⟨mb, j, none⟩) (hkb.block mb (by omega) (by simp; omega))).trans (h3.frozen hlt)))
set_option maxRecDepth 100000 in
theorem body_halt {mb ab : Nat} {w : World} {l : Int} (hh : HaltAt ab w) (h0 : 0 < l) (h1 : l ≤ 65536) (c3 : w.cell? ⟨mb, 3, none⟩ = some (.int .i64 l)) (z3 : w.frozen? ⟨mb, 3, none⟩ = false) :
    Calls Try.prog 32 #[.pointer (some ⟨mb, 0, none⟩), haltC ab] w fun e w' => ∃ g c : Nat, e = .returned (termC g c) ∧ Kept [mb] w w' ∧ (∀ j, j ≠ 3 → w'.cell? ⟨mb, j, none⟩ = w.cell? ⟨mb, j, none⟩) ∧ (∀ j, w'.frozen? ⟨mb, j, none⟩ = w.frozen? ⟨mb, j, none⟩) ∧ 1 ≤ c ∧ w.heap.size ≤ g ∧ w'.cell? ⟨g, 0, none⟩ = some (.bool true) ∧ w'.cell? ⟨g, 1, none⟩ = some (.int .i64 0) := by
  have hlt : mb < w.heap.size := World.block_lt_of_cell? _ _ c3
  have HH := Lib.hid hh
  have HM := Lib.hid (And.intro c3 z3)
  have HBX := Lib.hid (BoxAt.new w [.int .i64 8, .int .i64 0, .int .i64 0, .bool false, .slice none 0 0, .slice (some ⟨ab, 0, none⟩) 1 1, .slice none 0 0, .slice none 0 0] 34)
  have HB2 := Lib.hid (bgo (below_box w (.cells #[.int .i64 8, .int .i64 0, .int .i64 0, .bool false, .slice none 0 0, .slice (some ⟨ab, 0, none⟩) 1 1, .slice none 0 0, .slice none 0 0] 34)) (below_box _ (.cells #[.int .i64 0, .int .i64 0, .int .i64 0, .bool false, .slice none 0 0, .slice none 0 0, .slice none 0 0, .slice none 0 0] 34)))
  clear hh c3 z3
  unfold haltC
  go_enter Try.func32, Try.ntmps32
  go_wp2_with fail
  refine wp_region_rel [16] (fun a b => Below a.heap.size a b) (bdPost w.heap.size ab) (by kernel_rfl) (by kernel_rfl) (fun _ _ _ h k => bgo h k) (Below.refl _ _) bdPost_stable (by kernel_rfl) ?_ ?_
  · refine ⟨?_, ?_, ?_, ?_, ?_, ?_, ?_, ?_, ?_, ?_, ?_, ?_, ?_, ?_, ?_, ?_, ?_, trivial⟩
    all_goals (first | (rw [if_pos (by decide)]; trivial) | rw [if_neg (by decide)])
    · intro a w1 hR hold hpre K hK
      have h1 := hold 3 (by decide)
      simp [Act.eval] at h1
      clear hold hpre
      go_simp
      exact hK _ _ (Below.refl _ _) rfl
    · intro a w1 hR hold hpre K hK
      have h8 := hpre 0 _ 18 rfl rfl (by kernel_rfl)
      simp [Act.eval, bdPost] at h8
      clear hold hpre
      have c4 := (hR.cell (p := ⟨w.heap.size, 0, none⟩) (by simp; omega)).trans ((HBX.out.later (below_box _ _)).2 0 _ rfl)
      go_simp
      exact hK _ _ (Below.refl _ _) rfl
    · intro a w1 hR hold hpre K hK
      have h1 := hold 3 (by decide)
      simp [Act.eval] at h1
      clear hold hpre
      go_simp
      exact hK _ _ (Below.refl _ _) rfl
    · intro a w1 hR hold hpre K hK
      have h8 := hpre 2 _ 20 rfl rfl (by kernel_rfl)
      simp [Act.eval, bdPost] at h8
      clear hold hpre
      have c4 := (hR.cell (p := ⟨w.heap.size, 1, none⟩) (by simp; omega)).trans ((HBX.out.later (below_box _ _)).2 1 _ rfl)
      go_simp
      exact hK _ _ (Below.refl _ _) rfl
    · intro a w1 hR hold hpre K hK
      have h1 := hold 3 (by decide)
      simp [Act.eval] at h1
      clear hold hpre
      go_simp
      exact hK _ _ (Below.refl _ _) rfl
    · intro a w1 hR hold hpre K hK
      have h8 := hpre 4 _ 22 rfl rfl (by kernel_rfl)
      simp [Act.eval, bdPost] at h8
      clear hold hpre
      have c4 := (hR.cell (p := ⟨w.heap.size, 2, none⟩) (by simp; omega)).trans ((HBX.out.later (below_box _ _)).2 2 _ rfl)
      go_simp
      exact hK _ _ (Below.refl _ _) rfl
    · intro a w1 hR hold hpre K hK
      have h1 := hold 3 (by decide)
      simp [Act.eval] at h1
      clear hold hpre
      go_simp
      exact hK _ _ (Below.refl _ _) rfl
    · intro a w1 hR hold hpre K hK
      have h8 := hpre 6 _ 24 rfl rfl (by kernel_rfl)
      simp [Act.eval, bdPost] at h8
      clear hold hpre
      have c4 := (hR.cell (p := ⟨w.heap.size, 3, none⟩) (by simp; omega)).trans ((HBX.out.later (below_box _ _)).2 3 _ rfl)
      go_simp
      exact hK _ _ (Below.refl _ _) rfl
    · intro a w1 hR hold hpre K hK
      have h1 := hold 3 (by decide)
      simp [Act.eval] at h1
      clear hold hpre
      go_simp
      exact hK _ _ (Below.refl _ _) rfl
    · intro a w1 hR hold hpre K hK
      have h8 := hpre 8 _ 26 rfl rfl (by kernel_rfl)
      simp [Act.eval, bdPost] at h8
      clear hold hpre
      have c4 := (hR.cell (p := ⟨w.heap.size, 4, none⟩) (by simp; omega)).trans ((HBX.out.later (below_box _ _)).2 4 _ rfl)
      go_simp
      exact hK _ _ (Below.refl _ _) rfl
    · intro a w1 hR hold hpre K hK
      have h8 := hpre 9 _ 27 rfl rfl (by kernel_rfl)
      simp [Act.eval, bdPost] at h8
      clear hold hpre
      go_simp
      refine (cloneInts_nil w1).mono ?_
      rintro e wy ⟨rfl, rfl⟩
      exact hK _ _ (Below.refl _ _) rfl
    · intro a w1 hR hold hpre K hK
      have h1 := hold 3 (by decide)
      simp [Act.eval] at h1
      clear hold hpre
      go_simp
      exact hK _ _ (Below.refl _ _) rfl
    · intro a w1 hR hold hpre K hK
      have h8 := hpre 11 _ 29 rfl rfl (by kernel_rfl)
      simp [Act.eval, bdPost] at h8
      clear hold hpre
      have c4 := (hR.cell (p := ⟨w.heap.size, 5, none⟩) (by simp; omega)).trans ((HBX.out.later (below_box _ _)).2 5 _ rfl)
      go_simp
      exact hK _ _ (Below.refl _ _) rfl
    · intro a w1 hR hold hpre K hK
      have h8 := hpre 12 _ 30 rfl rfl (by kernel_rfl)
      simp [Act.eval, bdPost] at h8
      clear hold hpre
      have hsz := hR.size
      simp at hsz
      have hx := HH.out.later (bgo HB2.out (bgo (Below.refl _ _).drew hR))
      go_simp
      refine (cloneAtom hx).mono ?_
      rintro e wy ⟨g, c, rfl, hb, hg, k0, k1, hc⟩
      exact hK _ _ hb ⟨g, c, rfl, ⟨by omega, hc⟩, k0, k1⟩
    · intro a w1 hR hold hpre K hK
      have a1 := hpre 1 _ 19 rfl rfl (by kernel_rfl)
      have a3 := hpre 3 _ 21 rfl rfl (by kernel_rfl)
      have a5 := hpre 5 _ 23 rfl rfl (by kernel_rfl)
      have a7 := hpre 7 _ 25 rfl rfl (by kernel_rfl)
      have a10 := hpre 10 _ 28 rfl rfl (by kernel_rfl)
      obtain ⟨g, c, a13, hg, k0, k1⟩ := hpre 13 _ 31 rfl rfl (by kernel_rfl)
      simp [Act.eval, bdPost] at a1 a3 a5 a7 a10 a13
      clear hold hpre
      have HK := Lib.hid (And.intro hg (And.intro k0 k1))
      clear hg k0 k1
      go_simp
      exact hK _ _ (Below.refl _ _) ⟨g, c, rfl, HK.out.1, HK.out.2⟩
    · intro a w1 hR hold hpre K hK
      clear hold hpre
      have hsz := hR.size
      simp at hsz
      go_simp
      exact hK _ _ (below_box _ _) ⟨w1.heap.size, rfl, by omega, (new_cellsM (W := w1) (cs := [.int .i64 0, .int .i64 0, .int .i64 0, .bool false, .slice none 0 0, .slice none 0 0, .slice none 0 0, .slice none 0 0]) (t := 34) (Below.refl _ _) rfl).1, (new_cellsM (W := w1) (cs := [.int .i64 0, .int .i64 0, .int .i64 0, .bool false, .slice none 0 0, .slice none 0 0, .slice none 0 0, .slice none 0 0]) (t := 34) (Below.refl _ _) rfl).2⟩
  · intro vals w3 hR hv
    have e0 : vals 0 = .pointer (some ⟨w.heap.size, 0, none⟩) := hv 0 _ 18 rfl rfl (by kernel_rfl)
    have e1 : vals 1 = .int .i64 8 := hv 1 _ 19 rfl rfl (by kernel_rfl)
    have e2 : vals 2 = .pointer (some ⟨w.heap.size, 1, none⟩) := hv 2 _ 20 rfl rfl (by kernel_rfl)
    have e3 : vals 3 = .int .i64 0 := hv 3 _ 21 rfl rfl (by kernel_rfl)
    have e4 : vals 4 = .pointer (some ⟨w.heap.size, 2, none⟩) := hv 4 _ 22 rfl rfl (by kernel_rfl)
    have e5 : vals 5 = .int .i64 0 := hv 5 _ 23 rfl rfl (by kernel_rfl)
    have e6 : vals 6 = .pointer (some ⟨w.heap.size, 3, none⟩) := hv 6 _ 24 rfl rfl (by kernel_rfl)
    have e7 : vals 7 = .bool false := hv 7 _ 25 rfl rfl (by kernel_rfl)
    have e8 : vals 8 = .pointer (some ⟨w.heap.size, 4, none⟩) := hv 8 _ 26 rfl rfl (by kernel_rfl)
    have e9 : vals 9 = .slice none 0 0 := hv 9 _ 27 rfl rfl (by kernel_rfl)
    have e10 : vals 10 = .slice none 0 0 := hv 10 _ 28 rfl rfl (by kernel_rfl)
    have e11 : vals 11 = .pointer (some ⟨w.heap.size, 5, none⟩) := hv 11 _ 29 rfl rfl (by kernel_rfl)
    have e12 : vals 12 = .slice (some ⟨ab, 0, none⟩) 1 1 := hv 12 _ 30 rfl rfl (by kernel_rfl)
    obtain ⟨g', c', e13, _⟩ := hv 13 _ 31 rfl rfl (by kernel_rfl)
    obtain ⟨g, c, e14, ⟨hg, hcap⟩, k0, k1⟩ := hv 14 _ 32 rfl rfl (by kernel_rfl)
    obtain ⟨b, e15, hb, hbx, hbz⟩ := hv 15 _ 5 rfl rfl (by kernel_rfl)
    have hgb : g ≠ b := fun e => by
      subst e
      rw [hbx.2 0 _ rfl] at k0
      cases k0
    simp only [fillA, List.contains_cons, List.contains_nil, Nat.reduceAdd, Nat.reduceBEq, Bool.or_false, Bool.or_true, Bool.false_eq_true, if_true, if_false, Act.put, List.setIfInBounds_toArray, List.set_cons_zero, List.set_cons_succ, e0, e1, e2, e3, e4, e5, e6, e7, e8, e9, e10, e11, e12, e13, e14, e15]
    simp only [List.filterMap_cons, List.filterMap_nil, List.getElem?_toArray, List.getElem?_cons_succ, List.getElem?_cons_zero]
    clear hv e0 e1 e2 e3 e4 e5 e6 e7 e8 e9 e10 e11 e12 e13 e14 e15
    have HW3 := Lib.hid (bgo HB2.out (bgo (Below.refl _ _).drew hR))
    have HX3 := Lib.hid (((HBX.out.later (below_box _ (.cells #[.int .i64 0, .int .i64 0, .int .i64 0, .bool false, .slice none 0 0, .slice none 0 0, .slice none 0 0, .slice none 0 0] 34))).later (bgo (Below.refl _ _).drew hR)))
    have N3 := Lib.hid (new_cellsM (W := w.alloc (.cells #[.int .i64 8, .int .i64 0, .int .i64 0, .bool false, .slice none 0 0, .slice (some ⟨ab, 0, none⟩) 1 1, .slice none 0 0, .slice none 0 0] 34)) (cs := [.int .i64 0, .int .i64 0, .int .i64 0, .bool false, .slice none 0 0, .slice none 0 0, .slice none 0 0, .slice none 0 0]) (t := 34) (b := w.heap.size + 1) (bgo (Below.refl _ _).drew hR) (by simp))
    have q7 := HX3.out.2 7 _ rfl
    have q0 := HX3.out.1
    have hlt3 : w.heap.size + 1 < w3.heap.size := N3.out.1.1
    have nb0 : ¬ b = w.heap.size := by omega
    have nb1 : ¬ b = w.heap.size + 1 := by omega
    have nb2 : ¬ w.heap.size = b := by omega
    have nb3 : ¬ w.heap.size + 1 = b := by omega
    have hblt := hbx.1
    have b0 := hbx.2 0 _ rfl
    have bz0 := hbz 0
    have b1 := hbx.2 1 _ rfl
    have bz1 := hbz 1
    have b2 := hbx.2 2 _ rfl
    have bz2 := hbz 2
    have b3 := hbx.2 3 _ rfl
    have bz3 := hbz 3
    have b4 := hbx.2 4 _ rfl
    have bz4 := hbz 4
    have b5 := hbx.2 5 _ rfl
    have bz5 := hbz 5
    have b6 := hbx.2 6 _ rfl
    have bz6 := hbz 6
    have b7 := hbx.2 7 _ rfl
    have bz7 := hbz 7
    have HK := Lib.hid (And.intro hgb (And.intro hb (And.intro hg (And.intro k0 k1))))
    clear hg k0 k1 hR hbx hbz hgb hb
    go_wp2_with fail
    refine wp_loop_rounds 1 ?_
    rw [rounds_succ]
    have KB := Lib.hid ((((((((kept_setCell (S := [b]) (b := b) (by simp) w3 0 (.int .i64 8)).trans (kept_setCell (b := b) (by simp) _ 1 (.int .i64 0))).trans (kept_setCell (b := b) (by simp) _ 2 (.int .i64 0))).trans (kept_setCell (b := b) (by simp) _ 3 (.bool false))).trans (kept_setCell (b := b) (by simp) _ 4 (.slice none 0 0))).trans (kept_setCell (b := b) (by simp) _ 5 (.slice (some ⟨g, 0, none⟩) 1 c))).trans (kept_setCell (b := b) (by simp) _ 6 (.slice none 0 0))).trans (kept_setCell (b := b) (by simp) _ 7 (.slice none 0 0)))
    go_wp2_with fail
    go_at_call 54
    refine (term_halt (ab := g) (ac := c) h0 h1 (KB.out.cell ((HW3.out.cell hlt).trans HM.out.1) (by simp; have := HK.out.2.1; omega)) ((World.frozen?_of_block (a := ⟨mb, 3, none⟩) (KB.out.block mb (by omega) (by simp; have := HK.out.2.1; omega))).trans ((HW3.out.frozen hlt).trans HM.out.2))).mono ?_
    rintro e w5 ⟨he5, hk5, hc5, hz5⟩
    unfold termC at he5
    subst he5
    have Y : ∀ (j : Nat) (v : Value), ([.int .i64 0, .int .i64 0, .int .i64 0, .bool false, .slice none 0 0, .slice none 0 0, .slice none 0 0, .slice none 0 0] : List Value)[j]? = some v → w5.cell? ⟨w.heap.size + 1, j, none⟩ = some v := fun j v hv => hk5.cell (KB.out.cell (N3.out.1.2 j v hv) (by simp; omega)) (by simp; omega)
    have Z : ∀ j : Nat, w5.frozen? ⟨w.heap.size + 1, j, none⟩ = false := fun j => (World.frozen?_of_block (a := ⟨w.heap.size + 1, j, none⟩) (hk5.block (w.heap.size + 1) (by have := KB.out.size; omega) (by simp; omega))).trans ((World.frozen?_of_block (a := ⟨w.heap.size + 1, j, none⟩) (KB.out.block (w.heap.size + 1) hlt3 (by simp; omega))).trans (N3.out.2 j))
    have HK5 := Lib.hid (And.intro hk5 (And.intro hc5 hz5))
    have y0 := Y 0 _ rfl
    have z0 := Z 0
    have y1 := Y 1 _ rfl
    have z1 := Z 1
    have y2 := Y 2 _ rfl
    have z2 := Z 2
    have y3 := Y 3 _ rfl
    have z3 := Z 3
    have y4 := Y 4 _ rfl
    have z4 := Z 4
    have y5 := Y 5 _ rfl
    have z5 := Z 5
    have y6 := Y 6 _ rfl
    have z6 := Z 6
    have y7 := Y 7 _ rfl
    have z7 := Z 7
    clear Y Z hk5 hc5 hz5
    go_wp2_with fail
    refine bodyPost_ret (v := .agg #[.int .i64 8, .int .i64 0, .int .i64 0, .bool false, .slice none 0 0, .slice (some ⟨g, 0, none⟩) 1 c, .slice none 0 0, .slice none 0 0]) (by simp [results, Try.results32, go_sem, y0, y1, y2, y3, y4, y5, y6, y7]) rfl ?_
    clear y0 y1 y2 y3 y4 y5 y6 y7 z0 z1 z2 z3 z4 z5 z6 z7 q7 q0
    obtain ⟨hk5, hc5, hz5⟩ := HK5.out
    obtain ⟨hgb, hb, hg, k0, k1⟩ := HK.out
    have k8 := (((((((kept_setCell (S := [w.heap.size + 1]) (b := w.heap.size + 1) (by simp) w5 0 (.int .i64 8)).trans (kept_setCell (b := w.heap.size + 1) (by simp) _ 1 (.int .i64 0))).trans (kept_setCell (b := w.heap.size + 1) (by simp) _ 2 (.int .i64 0))).trans (kept_setCell (b := w.heap.size + 1) (by simp) _ 3 (.bool false))).trans (kept_setCell (b := w.heap.size + 1) (by simp) _ 4 (.slice none 0 0))).trans (kept_setCell (b := w.heap.size + 1) (by simp) _ 5 (.slice (some ⟨g, 0, none⟩) 1 c))).trans (kept_setCell (b := w.heap.size + 1) (by simp) _ 6 (.slice none 0 0))).trans (kept_setCell (b := w.heap.size + 1) (by simp) _ 7 (.slice none 0 0))
    obtain ⟨r1, r2, r3, r4⟩ := body_end hlt HW3.out hb KB.out hgb hk5 hc5 hz5 hg k0 k1 k8
    exact ⟨g, c, rfl, r1, r2, r3, hcap, r4⟩
end Go.Proofs.Ytimljadlfhccpaa
set_option linter.all false
namespace Go.Proofs.Ytimljadlfhccpaa
open Go.RowKit
set_option maxHeartbeats 4000000

set_option maxRecDepth 20000 in
theorem made_none (A B : Value) (w : World) : CallsD Try.prog 30 #[A, B] .returning w fun e u' w' => e = .returned (.tuple #[]) ∧ u' = .returning ∧ w' = w := by
  refine callsD_of_wpS Try.func30 rfl fun c₀ cs hu => ?_
  apply wpS_seq
  apply wpS_region
  simp [wpOpsS, go_sem, recoverD, hu, Try.ntmps30, Exit.thenS]
  refine wpS_of_wp ?_
  go_wp2
  simp [bodyPostS, results, Try.results30, hu]
  cases c₀
  subst hu
  rfl
/-- What Make's own boxes hold. -/
structure FrA (n ab : Nat) (W : World) : Prop where
  lt : n + 1 + 1 < W.heap.size
  abn : ab < n
  p : ∀ (j : Nat) (v : Value), [Value.int .i64 8, .int .i64 0, .int .i64 0, .bool false, .slice none 0 0, .slice (some ⟨ab, 0, none⟩) 1 1, .slice none 0 0, .slice none 0 0][j]? = some v → W.cell? ⟨n, j, none⟩ = some v
  f0 : W.cell? ⟨n + 1, 0, none⟩ = some (.slice none 0 0)
  f1 : W.cell? ⟨n + 1, 1, none⟩ = some (.int .i64 0)
  e0 : W.cell? ⟨n + 1 + 1, 0, none⟩ = some (.int .i64 0)
  fz : ∀ j, W.frozen? ⟨n + 1, j, none⟩ = false
  ez : ∀ j, W.frozen? ⟨n + 1 + 1, j, none⟩ = false
  hh : HaltAt ab W
theorem FrA.kept {n ab : Nat} {W W' : World} {S : List Nat} (h : FrA n ab W) (k : Kept S W W') (hs : ∀ s ∈ S, n + 1 + 1 < s) : FrA n ab W' where
  lt := Nat.lt_of_lt_of_le h.lt k.size
  abn := h.abn
  p j v hv := k.cell (h.p j v hv) (fun hm => by have h9 : n + 1 + 1 < n := hs _ hm; omega)
  f0 := k.cell h.f0 (fun hm => by have h9 : n + 1 + 1 < n + 1 := hs _ hm; omega)
  f1 := k.cell h.f1 (fun hm => by have h9 : n + 1 + 1 < n + 1 := hs _ hm; omega)
  e0 := k.cell h.e0 (fun hm => by have h9 : n + 1 + 1 < n + 1 + 1 := hs _ hm; omega)
  fz j := (World.frozen?_of_block (a := ⟨n + 1, j, none⟩) (k.block (n + 1) (by have := h.lt; omega) (fun hm => by have := hs _ hm; omega))).trans (h.fz j)
  ez j := (World.frozen?_of_block (a := ⟨n + 1 + 1, j, none⟩) (k.block (n + 1 + 1) h.lt (fun hm => by have := hs _ hm; omega))).trans (h.ez j)
  hh := ⟨Nat.lt_of_lt_of_le h.hh.lt k.size, k.cell h.hh.c0 (fun hm => by have h9 : n + 1 + 1 < ab := hs _ hm; have := h.abn; omega), k.cell h.hh.c1 (fun hm => by have h9 : n + 1 + 1 < ab := hs _ hm; have := h.abn; omega)⟩
theorem FrA.later {n ab : Nat} {W W' : World} (h : FrA n ab W) (k : Below W.heap.size W W') : FrA n ab W' := h.kept (S := []) (Kept.below k) (fun s hs => by cases hs)
theorem FrA.new {ab : Nat} {w : World} (hh : HaltAt ab w) : FrA w.heap.size ab (((w.alloc (.cells #[.int .i64 8, .int .i64 0, .int .i64 0, .bool false, .slice none 0 0, .slice (some ⟨ab, 0, none⟩) 1 1, .slice none 0 0, .slice none 0 0] 34)).alloc (.cells #[.slice none 0 0, .int .i64 0] 24)).alloc (.cells #[.int .i64 0] 37)) := by
  have b2 := below_box ((w.alloc (.cells #[.int .i64 8, .int .i64 0, .int .i64 0, .bool false, .slice none 0 0, .slice (some ⟨ab, 0, none⟩) 1 1, .slice none 0 0, .slice none 0 0] 34)).alloc (.cells #[.slice none 0 0, .int .i64 0] 24)) (.cells #[.int .i64 0] 37)
  have b1 := below_box (w.alloc (.cells #[.int .i64 8, .int .i64 0, .int .i64 0, .bool false, .slice none 0 0, .slice (some ⟨ab, 0, none⟩) 1 1, .slice none 0 0, .slice none 0 0] 34)) (.cells #[.slice none 0 0, .int .i64 0] 24)
  have nf := new_cellsM (W := w.alloc (.cells #[.int .i64 8, .int .i64 0, .int .i64 0, .bool false, .slice none 0 0, .slice (some ⟨ab, 0, none⟩) 1 1, .slice none 0 0, .slice none 0 0] 34)) (cs := [.slice none 0 0, .int .i64 0]) (t := 24) (b := w.heap.size + 1) b2 (by simp)
  have ne := new_cellsM (W := (w.alloc (.cells #[.int .i64 8, .int .i64 0, .int .i64 0, .bool false, .slice none 0 0, .slice (some ⟨ab, 0, none⟩) 1 1, .slice none 0 0, .slice none 0 0] 34)).alloc (.cells #[.slice none 0 0, .int .i64 0] 24)) (cs := [.int .i64 0]) (t := 37) (b := w.heap.size + 1 + 1) (Below.refl _ _) (by simp)
  have np := ((BoxAt.new w [.int .i64 8, .int .i64 0, .int .i64 0, .bool false, .slice none 0 0, .slice (some ⟨ab, 0, none⟩) 1 1, .slice none 0 0, .slice none 0 0] 34).later b1).later b2
  exact ⟨ne.1.1, hh.lt, np.2, nf.1.2 0 _ rfl, nf.1.2 1 _ rfl, ne.1.2 0 _ rfl, nf.2, ne.2, hh.later (bgo (bgo (below_box _ _) b1) b2)⟩
/-- The maker. -/
structure MkA (B : Nat) (v m : Value) (W : World) : Prop where
  c0 : W.cell? ⟨B, 0, none⟩ = some v
  c1 : W.cell? ⟨B, 1, none⟩ = some (.int .i64 0)
  c2 : W.cell? ⟨B, 2, none⟩ = some m
  c3 : W.cell? ⟨B, 3, none⟩ = some (.int .i64 65536)
  fz : ∀ j, W.frozen? ⟨B, j, none⟩ = false
theorem MkA.later {B : Nat} {v m : Value} {W W' : World} (h : MkA B v m W) (k : Below W.heap.size W W') : MkA B v m W' :=
  have hlt : B < W.heap.size := World.block_lt_of_cell? _ _ h.c0
  ⟨(k.cell (p := ⟨B, 0, none⟩) hlt).trans h.c0, (k.cell (p := ⟨B, 1, none⟩) hlt).trans h.c1, (k.cell (p := ⟨B, 2, none⟩) hlt).trans h.c2, (k.cell (p := ⟨B, 3, none⟩) hlt).trans h.c3, fun j => (k.frozen (p := ⟨B, j, none⟩) hlt).trans (h.fz j)⟩
/-- The flat program that it makes. -/
def haltF : Flat := ⟨[(0, [0], .mk 8 0 0 false [] [⟨true, 0⟩] [] [])], 0⟩
structure HaltFAt (M : Mp) (fb pb g c : Nat) : Prop where
  f : ∀ (j : Nat) (v : Value), ([.int .i64 0, .slice (some ⟨pb, 0, none⟩) 1 1, .int .i64 8, .int .i64 0, .int .i64 0, .bool false, .slice none 0 0, .slice (some ⟨g, 0, none⟩) 1 c, .slice none 0 0, .slice none 0 0] : List Value)[j]? = some v → M ⟨fb, j, none⟩ = some v
  p : M ⟨pb, 0, none⟩ = some (.int .i64 0)
  g0 : M ⟨g, 0, none⟩ = some (.bool true)
  g1 : M ⟨g, 1, none⟩ = some (.int .i64 0)
  cap : 1 ≤ c
theorem i64_few (n : Int) (h : 0 ≤ n) (h2 : n < 100) : I64 n := ⟨by omega, by omega⟩
theorem HaltFAt.flat {M : Mp} {fb pb g c : Nat} (h : HaltFAt M fb pb g c) : RFlat M (.slice (some ⟨fb, 0, none⟩) 1 1) haltF := by
  refine ⟨⟨⟨fun _ => [Value.int .i64 0, .slice (some ⟨pb, 0, none⟩) 1 1, .int .i64 8, .int .i64 0, .int .i64 0, .bool false, .slice none 0 0, .slice (some ⟨g, 0, none⟩) 1 c, .slice none 0 0, .slice none 0 0], fun _ => [.int .i64 8, .int .i64 0, .int .i64 0, .bool false, .slice none 0 0, .slice (some ⟨g, 0, none⟩) 1 c, .slice none 0 0, .slice none 0 0], fun _ => .slice (some ⟨pb, 0, none⟩) 1 1, ?_, ?_, ?_⟩⟩, i64_few 0 (by omega) (by omega)⟩
  · refine ⟨some ⟨fb, 0, none⟩, 1, rfl, by simp [haltF], by simp [haltF], fun _ => ⟨fb, 0, rfl, fun i hi => ⟨rfl, fun k v hk => ?_⟩⟩⟩
    obtain rfl : i = 0 := by simp [haltF] at hi; exact hi
    simpa using h.f k v hk
  · intro i f hf
    match i, hf with
    | 0, hf =>
      simp [haltF] at hf
      subst hf
      refine ⟨rfl, ⟨⟨some ⟨pb, 0, none⟩, 1, rfl, by simp, by simp, fun _ => ⟨pb, 0, rfl, fun i hi => ⟨rfl, fun k v hk => ?_⟩⟩⟩, fun x hx => ?_⟩, i64_few 0 (by omega) (by omega)⟩
      · obtain rfl : i = 0 := by simp at hi; exact hi
        match k, hk with
        | 0, hk => simp at hk; subst hk; exact h.p
      · simp at hx; subst hx; exact i64_few 0 (by omega) (by omega)
  · intro i f hf
    match i, hf with
    | 0, hf =>
      simp [haltF] at hf
      subst hf
      refine .mk 8 0 0 false [] [⟨true, 0⟩] [] [] _ _ _ _ (fun _ => []) (fun _ => []) (fun _ => []) (fun _ => .bool false) (i64_few _ (by omega) (by omega)) (i64_few _ (by omega) (by omega)) (i64_few _ (by omega) (by omega)) (RInts.nil M) ?_ ⟨none, 0, rfl, by simp, by simp, by simp⟩ ⟨none, 0, rfl, by simp, by simp, by simp⟩ (by simp) (by simp) (by simp)
      refine ⟨⟨some ⟨g, 0, none⟩, c, rfl, h.cap, by simp, fun _ => ⟨g, 0, rfl, fun i hi => ⟨rfl, fun k v hk => ?_⟩⟩⟩, fun x hx => ?_⟩
      · match i, k, hk with
        | 0, 0, hk => simp [atomCells] at hk; subst hk; exact h.g0
        | 0, 1, hk => simp [atomCells] at hk; subst hk; exact h.g1
        | 0, k + 2, hk => simp [atomCells] at hk
        | n + 1, k, hk => simp at hi
      · simp at hx; subst hx; exact i64_few _ (by simp) (by simp)
theorem haltF_good : goodFlat haltF = true := by decide +kernel
theorem gen_worldM {P : Program} {n : FuncId} {args : Array Value} {W : World} {Q : Ending → World → Prop} (F : World → Prop) (h1 : F W) (h2 : ∀ W', F W' → Calls P n args W' Q) : Calls P n args W Q := h2 W h1
/-- What stands where the flat program is looked at. -/
structure MkR (w : World) (ab B fb pb g c : Nat) (W : World) : Prop where
  bel : Below w.heap.size w W
  A : FrA w.heap.size ab W
  F : HaltFAt (fun a => W.cell? a) fb pb g c
  m0 : W.cell? ⟨B, 0, none⟩ = some (.slice (some ⟨fb, 0, none⟩) 1 1)
  m1 : W.cell? ⟨B, 1, none⟩ = some (.int .i64 0)
  lo : w.heap.size ≤ fb ∧ w.heap.size ≤ pb ∧ w.heap.size ≤ g
def mkPost (B F g c : Nat) : Nat → Value → World → Prop
  | 0, v, _ => v = .pointer (some ⟨B, 0, none⟩)
  | 1, v, _ => v = .pointer (some ⟨B, 0, none⟩)
  | 2, v, _ => v = .pointer (some ⟨B, 0, none⟩)
  | 3, v, _ => v = .pointer (some ⟨B, 0, none⟩)
  | 4, v, _ => v = .slice (some ⟨F, 0, none⟩) 1 1
  | 5, v, _ => v = .agg #[.int .i64 8, .int .i64 0, .int .i64 0, .bool false, .slice none 0 0, .slice (some ⟨g, 0, none⟩) 1 c, .slice none 0 0, .slice none 0 0]
  | _, _, _ => True
theorem mkPost_stable {B F g c : Nat} : ∀ i v w w', mkPost B F g c i v w → Below w.heap.size w w' → mkPost B F g c i v w' := by
  intro i v w w' h hb
  match i, h with
  | 0, h => exact h
  | 1, h => exact h
  | 2, h => exact h
  | 3, h => exact h
  | 4, h => exact h
  | 5, h => exact h
  | n + 6, h => trivial
def MakePost (w : World) (e : Ending) (w' : World) : Prop := ∃ fb pb g c : Nat, e = .returned (.tuple #[.agg #[.slice (some ⟨fb, 0, none⟩) 1 1, .int .i64 0], .int .i64 0]) ∧ Below w.heap.size w w' ∧ HaltFAt (fun a => w'.cell? a) fb pb g c ∧ w.heap.size ≤ fb ∧ w.heap.size ≤ pb ∧ w.heap.size ≤ g
set_option maxRecDepth 100000 in
theorem make_halt (HG : ∀ (W : World) (v : Value), RFlat (fun a => W.cell? a) v haltF → Calls Try.prog 8 #[.agg #[v, .int .i64 0]] W fun e w' => e = .returned (.bool (goodFlat haltF)) ∧ Below W.heap.size W w') {ab : Nat} {w : World} (hh : HaltAt ab w) : Calls Try.prog 15 #[haltC ab] w (MakePost w) := by
  have HG := Lib.hid HG
  have HH := Lib.hid hh
  have hmm := @run_makeMap Try.prog
  clear hh
  unfold haltC
  go_enter_defers Try.func15, Try.ntmps15
  go_wp2_with fail
  have A0 := Lib.hid (FrA.new HH.out)
  have HB0 := Lib.hid (bgo (bgo (below_box w (.cells #[.int .i64 8, .int .i64 0, .int .i64 0, .bool false, .slice none 0 0, .slice (some ⟨ab, 0, none⟩) 1 1, .slice none 0 0, .slice none 0 0] 34)) (below_box _ (.cells #[.slice none 0 0, .int .i64 0] 24))) (below_box _ (.cells #[.int .i64 0] 37)))
  go_at_call 29
  refine (cpsGood_halt A0.out.hh).mono ?_
  rintro e w1 ⟨rfl, hb1⟩
  have A1 := Lib.hid (A0.out.later hb1)
  have HB1 := Lib.hid (bgo HB0.out hb1)
  clear hb1
  have p0 := A1.out.p 0 _ rfl
  have p1 := A1.out.p 1 _ rfl
  have p2 := A1.out.p 2 _ rfl
  have p3 := A1.out.p 3 _ rfl
  have p4 := A1.out.p 4 _ rfl
  have p5 := A1.out.p 5 _ rfl
  have p6 := A1.out.p 6 _ rfl
  have p7 := A1.out.p 7 _ rfl
  have l1 := A1.out.lt
  have l1a : w.heap.size < w1.heap.size := by omega
  go_wp2_with fail
  have b1 := Lib.hid (bgo (below_box w1 (.map #[] 0)) (below_box _ (.cells #[.slice none 0 0, .int .i64 0, .map (some w1.heap.size), .int .i64 65536] 70)))
  have m1 := Lib.hid (new_cellsM (W := w1.alloc (.map #[] 0)) (cs := [.slice none 0 0, .int .i64 0, .map (some w1.heap.size), .int .i64 65536]) (t := 70) (b := w1.heap.size + 1) (Below.refl _ _) (by simp))
  go_at_call 31
  refine (free_halt (mb := w1.heap.size + 1) (A1.out.later b1.out).hh).mono ?_
  rintro e w2 ⟨⟨v2, rfl⟩, hb2⟩
  have A2 := Lib.hid ((A1.out.later b1.out).later hb2)
  have HB2 := Lib.hid (bgo (bgo HB1.out b1.out) hb2)
  have M2 : Hid (MkA (w1.heap.size + 1) (.slice none 0 0) (.map (some w1.heap.size)) w2) := Lib.hid (MkA.later (W := (w1.alloc (.map #[] 0)).alloc (.cells #[.slice none 0 0, .int .i64 0, .map (some w1.heap.size), .int .i64 65536] 70)) ⟨m1.out.1.2 0 _ rfl, m1.out.1.2 1 _ rfl, m1.out.1.2 2 _ rfl, m1.out.1.2 3 _ rfl, m1.out.2⟩ hb2)
  have hs2 : w1.heap.size + 1 < w2.heap.size := World.block_lt_of_cell? _ _ M2.out.c0
  clear hb2 p0 p1 p2 p3 p4 p5 p6 p7
  have p0 := A2.out.p 0 _ rfl
  have p1 := A2.out.p 1 _ rfl
  have p2 := A2.out.p 2 _ rfl
  have p3 := A2.out.p 3 _ rfl
  have p4 := A2.out.p 4 _ rfl
  have p5 := A2.out.p 5 _ rfl
  have p6 := A2.out.p 6 _ rfl
  have p7 := A2.out.p 7 _ rfl
  have l2a : w.heap.size < w2.heap.size := by omega
  have c0 := M2.out.c0
  have z0 := M2.out.fz 0
  have hs2b : w1.heap.size + 1 < w2.heap.size + 1 := by omega
  have l2b : w.heap.size < w2.heap.size + 1 := by omega
  have nB : ¬ w.heap.size = w1.heap.size + 1 := by omega
  have nB' : ¬ w1.heap.size + 1 = w.heap.size := by omega
  have nB2 : ¬ w1.heap.size + 1 = w2.heap.size := by omega
  have nB3 : ¬ w1.heap.size + 1 = w2.heap.size + 1 := by omega
  go_wp2_with fail
  have k2 := Lib.hid (kept_setCell (S := [w1.heap.size + 1]) (b := w1.heap.size + 1) (by simp) w2 0 (.slice (some ⟨w2.heap.size + 1, 0, none⟩) 1 1))
  have b3 := Lib.hid (below_box (w2.setCell ⟨w1.heap.size + 1, 0, none⟩ (.slice (some ⟨w2.heap.size + 1, 0, none⟩) 1 1)) (.cells #[.int .i64 0] 3))
  have b4 := Lib.hid (below_box ((w2.setCell ⟨w1.heap.size + 1, 0, none⟩ (.slice (some ⟨w2.heap.size + 1, 0, none⟩) 1 1)).alloc (.cells #[.int .i64 0] 3)) (.cells #[.int .i64 0, .slice (some ⟨w2.heap.size, 0, none⟩) 1 1, .int .i64 0, .int .i64 0, .int .i64 0, .bool false, .slice none 0 0, .slice none 0 0, .slice none 0 0, .slice none 0 0] 42))
  have A3 := Lib.hid (((A2.out.kept k2.out (fun s hs => by simp at hs; omega)).later b3.out).later b4.out)
  have M3 : Hid (MkA (w1.heap.size + 1) (.slice (some ⟨w2.heap.size + 1, 0, none⟩) 1 1) (.map (some w1.heap.size)) (((w2.setCell ⟨w1.heap.size + 1, 0, none⟩ (.slice (some ⟨w2.heap.size + 1, 0, none⟩) 1 1)).alloc (.cells #[.int .i64 0] 3)).alloc (.cells #[.int .i64 0, .slice (some ⟨w2.heap.size, 0, none⟩) 1 1, .int .i64 0, .int .i64 0, .int .i64 0, .bool false, .slice none 0 0, .slice none 0 0, .slice none 0 0, .slice none 0 0] 42))) := Lib.hid (MkA.later (MkA.later ⟨World.cell?_setCell_same _ _ _ M2.out.c0, (World.cell?_setCell_other _ _ _ _ (by simp)).trans M2.out.c1, (World.cell?_setCell_other _ _ _ _ (by simp)).trans M2.out.c2, (World.cell?_setCell_other _ _ _ _ (by simp)).trans M2.out.c3, fun j => by rw [World.frozen?_setCell]; exact M2.out.fz j⟩ b3.out) b4.out)
  have n3 := Lib.hid ((new_cellsM (W := w2.setCell ⟨w1.heap.size + 1, 0, none⟩ (.slice (some ⟨w2.heap.size + 1, 0, none⟩) 1 1)) (cs := [.int .i64 0]) (t := 3) (b := w2.heap.size) b4.out (by simp)).1)
  have n4 := Lib.hid (new_cellsM (W := (w2.setCell ⟨w1.heap.size + 1, 0, none⟩ (.slice (some ⟨w2.heap.size + 1, 0, none⟩) 1 1)).alloc (.cells #[.int .i64 0] 3)) (cs := [.int .i64 0, .slice (some ⟨w2.heap.size, 0, none⟩) 1 1, .int .i64 0, .int .i64 0, .int .i64 0, .bool false, .slice none 0 0, .slice none 0 0, .slice none 0 0, .slice none 0 0]) (t := 42) (b := w2.heap.size + 1) (Below.refl _ _) (by simp))
  go_at_call 32
  refine (body_halt A3.out.hh (by omega) (by omega) M3.out.c3 (M3.out.fz 3)).mono ?_
  rintro e w4 ⟨g, c, he4, hk4, hc4, hz4, hcap, hg, k40, k41⟩
  unfold termC at he4
  subst he4
  have A4 := Lib.hid (A3.out.kept hk4 (fun s hs => by simp at hs; omega))
  have hs3 : w2.heap.size + 1 + 1 ≤ w4.heap.size := by have := hk4.size; simp at this; omega
  have M4 : Hid (MkA (w1.heap.size + 1) (.slice (some ⟨w2.heap.size + 1, 0, none⟩) 1 1) (.map (some w1.heap.size)) { w4 with heap := w4.heap } ∨ True) := Lib.hid (.inr trivial)
  have m40 := (hc4 0 (by decide)).trans M3.out.c0
  have m41 := (hc4 1 (by decide)).trans M3.out.c1
  have HF4 : Hid (BoxAt (w2.heap.size + 1) w4 [.int .i64 0, .slice (some ⟨w2.heap.size, 0, none⟩) 1 1, .int .i64 0, .int .i64 0, .int .i64 0, .bool false, .slice none 0 0, .slice none 0 0, .slice none 0 0, .slice none 0 0] ∧ ∀ j, w4.frozen? ⟨w2.heap.size + 1, j, none⟩ = false) := Lib.hid ⟨⟨by omega, fun j v hv => hk4.cell (n4.out.1.2 j v hv) (by simp; omega)⟩, fun j => (World.frozen?_of_block (a := ⟨w2.heap.size + 1, j, none⟩) (hk4.block (w2.heap.size + 1) n4.out.1.1 (by simp; omega))).trans (n4.out.2 j)⟩
  have HP4 : Hid (w4.cell? ⟨w2.heap.size, 0, none⟩ = some (.int .i64 0)) := Lib.hid (hk4.cell (n3.out.2 0 _ rfl) (by simp; omega))
  have HG4 := Lib.hid (And.intro hg (And.intro k40 k41))
  have HK4 := Lib.hid (And.intro hk4 hz4)
  clear M4 hk4 hc4 hz4 hg k40 k41 c0 z0 p0 p1 p2 p3 p4 p5 p6 p7
  have nw0 : ¬ w1.heap.size + 1 = w4.heap.size := by omega
  have nw1 : ¬ w2.heap.size + 1 = w4.heap.size := by omega
  have lw0 : w1.heap.size + 1 < w4.heap.size := by omega
  have lw1 : w2.heap.size + 1 < w4.heap.size := by omega
  go_wp2_with fail
  have HX5 := Lib.hid (BoxAt.new w4 [.int .i64 8, .int .i64 0, .int .i64 0, .bool false, .slice none 0 0, .slice (some ⟨g, 0, none⟩) 1 c, .slice none 0 0, .slice none 0 0] 34)
  have HB5 := Lib.hid (below_box w4 (.cells #[.int .i64 8, .int .i64 0, .int .i64 0, .bool false, .slice none 0 0, .slice (some ⟨g, 0, none⟩) 1 c, .slice none 0 0, .slice none 0 0] 34))
  have HM4 := Lib.hid (And.intro m40 m41)
  clear m40 m41
  refine wp_region_rel [6, 7, 8] (fun a b => Below a.heap.size a b) (mkPost (w1.heap.size + 1) (w2.heap.size + 1) g c) (by kernel_rfl) (by kernel_rfl) (fun _ _ _ h k => bgo h k) (Below.refl _ _) mkPost_stable (by kernel_rfl) ?_ ?_
  · refine ⟨?_, ?_, ?_, ?_, ?_, ?_, ?_, ?_, ?_, trivial⟩
    all_goals (first | (rw [if_pos (by decide)]; trivial) | rw [if_neg (by decide)])
    · intro a w6 hR hold hpre K hK
      have h1 := hold 4 (by decide)
      simp [Act.eval] at h1
      clear hold hpre
      go_simp
      exact hK _ _ (Below.refl _ _) rfl
    · intro a w6 hR hold hpre K hK
      have h8 := hpre 0 _ 27 rfl rfl (by kernel_rfl)
      simp [Act.eval, mkPost] at h8
      clear hold hpre
      go_simp
      exact hK _ _ (Below.refl _ _) rfl
    · intro a w6 hR hold hpre K hK
      have h8 := hpre 1 _ 28 rfl rfl (by kernel_rfl)
      simp [Act.eval, mkPost] at h8
      clear hold hpre
      go_simp
      exact hK _ _ (Below.refl _ _) rfl
    · intro a w6 hR hold hpre K hK
      have h8 := hpre 2 _ 29 rfl rfl (by kernel_rfl)
      simp [Act.eval, mkPost] at h8
      clear hold hpre
      go_simp
      exact hK _ _ (Below.refl _ _) rfl
    · intro a w6 hR hold hpre K hK
      have h8 := hpre 3 _ 30 rfl rfl (by kernel_rfl)
      simp [Act.eval, mkPost] at h8
      clear hold hpre
      have hx := bgo HB5.out (bgo (Below.refl _ _).drew hR)
      have y0 := (hx.cell (p := ⟨w1.heap.size + 1, 0, none⟩) lw0).trans HM4.out.1
      go_simp
      exact hK _ _ (Below.refl _ _) rfl
    · intro a w6 hR hold hpre K hK
      have h1 := hold 5 (by decide)
      simp [Act.eval] at h1
      clear hold hpre
      have hx := HX5.out.later (bgo (Below.refl _ _).drew hR)
      have y0 := hx.2 0 _ rfl
      have y1 := hx.2 1 _ rfl
      have y2 := hx.2 2 _ rfl
      have y3 := hx.2 3 _ rfl
      have y4 := hx.2 4 _ rfl
      have y5 := hx.2 5 _ rfl
      have y6 := hx.2 6 _ rfl
      have y7 := hx.2 7 _ rfl
      clear hx
      go_simp
      exact hK _ _ (Below.refl _ _) rfl
  · intro vals w6 hR hv
    have e0 : vals 0 = .pointer (some ⟨w1.heap.size + 1, 0, none⟩) := hv 0 _ 27 rfl rfl (by kernel_rfl)
    have e1 : vals 1 = .pointer (some ⟨w1.heap.size + 1, 0, none⟩) := hv 1 _ 28 rfl rfl (by kernel_rfl)
    have e2 : vals 2 = .pointer (some ⟨w1.heap.size + 1, 0, none⟩) := hv 2 _ 29 rfl rfl (by kernel_rfl)
    have e3 : vals 3 = .pointer (some ⟨w1.heap.size + 1, 0, none⟩) := hv 3 _ 30 rfl rfl (by kernel_rfl)
    have e4 : vals 4 = .slice (some ⟨w2.heap.size + 1, 0, none⟩) 1 1 := hv 4 _ 31 rfl rfl (by kernel_rfl)
    have e5 : vals 5 = .agg #[.int .i64 8, .int .i64 0, .int .i64 0, .bool false, .slice none 0 0, .slice (some ⟨g, 0, none⟩) 1 c, .slice none 0 0, .slice none 0 0] := hv 5 _ 32 rfl rfl (by kernel_rfl)
    simp only [fillA, List.contains_cons, List.contains_nil, Nat.reduceAdd, Nat.reduceBEq, Bool.or_false, Bool.or_true, Bool.false_eq_true, if_true, if_false, Act.put, List.setIfInBounds_toArray, List.set_cons_zero, List.set_cons_succ, e0, e1, e2, e3, e4, e5]
    simp only [List.filterMap_cons, List.filterMap_nil, List.getElem?_toArray, List.getElem?_cons_succ, List.getElem?_cons_zero]
    clear hv e0 e1 e2 e3 e4 e5
    have HW6 := Lib.hid (bgo HB5.out (bgo (Below.refl _ _).drew hR))
    have hs6 := HW6.out.size
    have lw2 : w2.heap.size + 1 < w6.heap.size := by omega
    have FB := Lib.hid (HF4.out.1.later HW6.out)
    have FZ := Lib.hid (fun j : Nat => (HW6.out.frozen (p := ⟨w2.heap.size + 1, j, none⟩) lw1).trans (HF4.out.2 j))
    clear hR
    have f2 := FB.out.2 2 _ rfl
    have fz2 := FZ.out 2
    have f3 := FB.out.2 3 _ rfl
    have fz3 := FZ.out 3
    have f4 := FB.out.2 4 _ rfl
    have fz4 := FZ.out 4
    have f5 := FB.out.2 5 _ rfl
    have fz5 := FZ.out 5
    have f6 := FB.out.2 6 _ rfl
    have fz6 := FZ.out 6
    have f7 := FB.out.2 7 _ rfl
    have fz7 := FZ.out 7
    have f8 := FB.out.2 8 _ rfl
    have fz8 := FZ.out 8
    have f9 := FB.out.2 9 _ rfl
    have fz9 := FZ.out 9
    have y0 := (HW6.out.cell (p := ⟨w1.heap.size + 1, 0, none⟩) lw0).trans HM4.out.1
    have y1 := (HW6.out.cell (p := ⟨w1.heap.size + 1, 1, none⟩) lw0).trans HM4.out.2
    have nz0 : ¬ w1.heap.size + 1 = w2.heap.size + 1 := by omega
    have nz1 : ¬ w2.heap.size + 1 = w1.heap.size + 1 := by omega
    go_wp2_with fail
    go_at_call 8
    refine gen_worldM (MkR w ab (w1.heap.size + 1) (w2.heap.size + 1) w2.heap.size g c) ?_ ?_
    · have KF := (((((((kept_setCell (S := [w2.heap.size + 1]) (b := w2.heap.size + 1) (by simp) w6 2 (.int .i64 8)).trans (kept_setCell (b := w2.heap.size + 1) (by simp) _ 3 (.int .i64 0))).trans (kept_setCell (b := w2.heap.size + 1) (by simp) _ 4 (.int .i64 0))).trans (kept_setCell (b := w2.heap.size + 1) (by simp) _ 5 (.bool false))).trans (kept_setCell (b := w2.heap.size + 1) (by simp) _ 6 (.slice none 0 0))).trans (kept_setCell (b := w2.heap.size + 1) (by simp) _ 7 (.slice (some ⟨g, 0, none⟩) 1 c))).trans (kept_setCell (b := w2.heap.size + 1) (by simp) _ 8 (.slice none 0 0))).trans (kept_setCell (b := w2.heap.size + 1) (by simp) _ 9 (.slice none 0 0))
      clear y0 y1
      have KS := KF.size
      obtain ⟨hg, k40, k41⟩ := HG4.out
      have hg0 : w2.heap.size + 1 + 1 ≤ g := by simpa using hg
      have l6 := HW6.out.size
      have hm := fun (j : Nat) (v : Value) (h : w4.cell? ⟨w1.heap.size + 1, j, none⟩ = some v) => KF.cell (p := ⟨w1.heap.size + 1, j, none⟩) ((HW6.out.cell lw0).trans h) (by simp; omega)
      have f0 := FB.out.2 0 _ rfl
      have f1 := FB.out.2 1 _ rfl
      refine ⟨⟨KF.os.trans (HW6.out.os.trans (HK4.out.1.os.trans (b4.out.os.trans (b3.out.os.trans (k2.out.os.trans HB2.out.os))))), KF.tape.trans (HW6.out.tape.trans (HK4.out.1.tape.trans (b4.out.tape.trans (b3.out.tape.trans (k2.out.tape.trans HB2.out.tape))))), KF.output.trans (HW6.out.output.trans (HK4.out.1.output.trans (b4.out.output.trans (b3.out.output.trans (k2.out.output.trans HB2.out.output))))), by omega, fun k hk => ?_⟩, (A4.out.later HW6.out).kept KF (fun s hs => by simp at hs; omega), ⟨fun j v hv => ?_, KF.cell (p := ⟨w2.heap.size, 0, none⟩) ((HW6.out.cell (p := ⟨w2.heap.size, 0, none⟩) (by show w2.heap.size < _; omega)).trans HP4.out) (by simp), KF.cell (p := ⟨g, 0, none⟩) ((HW6.out.cell (World.block_lt_of_cell? _ _ k40)).trans k40) (by simp; omega), KF.cell (p := ⟨g, 1, none⟩) ((HW6.out.cell (World.block_lt_of_cell? _ _ k41)).trans k41) (by simp; omega), hcap⟩, hm 0 _ HM4.out.1, hm 1 _ HM4.out.2, by omega⟩
      · exact (KF.block k (by omega) (by simp; omega)).trans ((HW6.out.block k (by omega)).trans ((HK4.out.1.block k (by simp; omega) (by simp; omega)).trans ((b4.out.block k (by simp; omega)).trans ((b3.out.block k (by simp; omega)).trans ((k2.out.block k (by omega) (by simp; omega)).trans (HB2.out.block k hk))))))
      · match j, hv with
        | 0, hv => simp at hv; subst hv; simp [go_sem, f0, f1, f2, f3, f4, f5, f6, f7, f8, f9]
        | 1, hv => simp at hv; subst hv; simp [go_sem, f0, f1, f2, f3, f4, f5, f6, f7, f8, f9]
        | 2, hv => simp at hv; subst hv; simp [go_sem, f0, f1, f2, f3, f4, f5, f6, f7, f8, f9]
        | 3, hv => simp at hv; subst hv; simp [go_sem, f0, f1, f2, f3, f4, f5, f6, f7, f8, f9]
        | 4, hv => simp at hv; subst hv; simp [go_sem, f0, f1, f2, f3, f4, f5, f6, f7, f8, f9]
        | 5, hv => simp at hv; subst hv; simp [go_sem, f0, f1, f2, f3, f4, f5, f6, f7, f8, f9]
        | 6, hv => simp at hv; subst hv; simp [go_sem, f0, f1, f2, f3, f4, f5, f6, f7, f8, f9]
        | 7, hv => simp at hv; subst hv; simp [go_sem, f0, f1, f2, f3, f4, f5, f6, f7, f8, f9]
        | 8, hv => simp at hv; subst hv; simp [go_sem, f0, f1, f2, f3, f4, f5, f6, f7, f8, f9]
        | 9, hv => simp at hv; subst hv; simp [go_sem, f0, f1, f2, f3, f4, f5, f6, f7, f8, f9]
        | n + 10, hv => simp at hv
    intro W HW
    have HR := Lib.hid HW
    clear HW
    refine (HG.out W _ HR.out.F.flat).mono ?_
    rintro e w8 ⟨he8, hb8⟩
    rw [haltF_good] at he8
    subst he8
    have A8 := Lib.hid (HR.out.A.later hb8)
    have n0 := (hb8.cell (p := ⟨w1.heap.size + 1, 0, none⟩) (World.block_lt_of_cell? _ _ HR.out.m0)).trans HR.out.m0
    have n1 := (hb8.cell (p := ⟨w1.heap.size + 1, 1, none⟩) (World.block_lt_of_cell? _ _ HR.out.m1)).trans HR.out.m1
    have a0 := A8.out.f0
    have a1 := A8.out.f1
    have a2 := A8.out.e0
    have az0 := A8.out.fz 0
    have az1 := A8.out.fz 1
    have az2 := A8.out.ez 0
    have H8 := Lib.hid hb8
    clear hb8
    go_wp2_with fail
    refine leaves_cons (f := 30) (args := #[.pointer (some ⟨w.heap.size + 1, 0, none⟩), .pointer (some ⟨w.heap.size + 1 + 1, 0, none⟩)]) (by simp) (by simp [go_sem]) ?_
    refine (made_none _ _ _).mono ?_
    rintro e u' w9 ⟨rfl, rfl, rfl⟩
    simp [Leaves, settle, results, Try.results15, go_sem, a0, a1, a2]
    have KE := ((kept_setCell (S := [w.heap.size + 1, w.heap.size + 1 + 1]) (b := w.heap.size + 1) (by simp) w8 0 (.slice (some ⟨w2.heap.size + 1, 0, none⟩) 1 1)).trans (kept_setCell (b := w.heap.size + 1) (by simp) _ 1 (.int .i64 0))).trans (kept_setCell (b := w.heap.size + 1 + 1) (by simp) _ 0 (.int .i64 0))
    have hg0 : w2.heap.size + 1 + 1 ≤ g := by simpa using HG4.out.1
    have hbe := bgo HR.out.bel H8.out
    have tr : ∀ (b j : Nat) (v : Value), w1.heap.size < b → W.cell? ⟨b, j, none⟩ = some v → _ := fun b j v hb h => KE.cell (p := ⟨b, j, none⟩) ((H8.out.cell (p := ⟨b, j, none⟩) (World.block_lt_of_cell? _ _ h)).trans h) (by simp; omega)
    exact ⟨w2.heap.size + 1, w2.heap.size, g, c, rfl, hbe.trans (KE.toBelow hbe.size (by simp; omega)), ⟨fun j v hv => tr _ j v (by omega) (HR.out.F.f j v hv), tr _ 0 _ (by omega) HR.out.F.p, tr _ 0 _ (by omega) HR.out.F.g0, tr _ 1 _ (by omega) HR.out.F.g1, HR.out.F.cap⟩, HR.out.lo⟩
end Go.Proofs.Ytimljadlfhccpaa
