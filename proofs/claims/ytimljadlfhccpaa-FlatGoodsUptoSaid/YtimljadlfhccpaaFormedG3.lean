/- What a term's kind has: the program's own test, kind by kind. -/
import Derived.Test.YtimljadlfhccpaaProg
import Derived.Test.YtimljadlfhccpaaMB
import Derived.Test.YtimljadlfhccpaaMkP
import Derived.Test.YtimljadlfhccpaaMkN
set_option linter.all false
set_option linter.all false
namespace Go.Proofs.Ytimljadlfhccpaa
open Go.RowKit
set_option maxHeartbeats 4000000

theorem tmps_at {a : Act} {d : Nat} {b : Bool} (h : a.eval (.tmp d) = .bool b) : a.tmps[d]? = some (.bool b) := by
  rw [eval_tmp] at h
  cases hc : a.tmps[d]? with
  | none => rw [hc] at h; cases h
  | some v => rw [hc] at h; rw [← h]; rfl
structure R9 (n : Nat) (a b : World) : Prop where
  bel : Below (n + 1) a b
  one : ∀ k x, a.cell? ⟨n + 1, k, none⟩ = some x → ∃ y, b.cell? ⟨n + 1, k, none⟩ = some y
  ice : ∀ k, b.frozen? ⟨n + 1, k, none⟩ = a.frozen? ⟨n + 1, k, none⟩
theorem R9.refl (n : Nat) (a : World) : R9 n a a := ⟨Below.refl _ _, fun _ x h => ⟨x, h⟩, fun _ => rfl⟩
theorem R9.trans {n : Nat} {a b c : World} (h : R9 n a b) (k : R9 n b c) : R9 n a c := ⟨h.bel.trans k.bel, fun i x hx => by obtain ⟨y, hy⟩ := h.one i x hx; exact k.one i y hy, fun i => (k.ice i).trans (h.ice i)⟩
theorem R9.set (n : Nat) (a : World) (j : Nat) (v : Value) : R9 n a (a.setCell ⟨n + 1, j, none⟩ v) := ⟨(Below.refl (n + 1) a).setCell (p := ⟨n + 1, j, none⟩) (Nat.le_refl _) v, fun _ _ h => cell?_setCell_some h, fun _ => World.frozen?_setCell ..⟩
def f9Post (B kb : Nat) (tx tn main : Int) (ab : Option Addr) (al acap : Nat) (Fb : Option Addr) (nf Fc : Nat) : Nat → Value → Prop
  | 0, v => v = .pointer (some ⟨B, 1, none⟩)
  | 1, v => v = .int .i64 tx
  | 2, v => v = .pointer (some ⟨B, 2, none⟩)
  | 3, v => v = .int .i64 tn
  | 4, v => v = .pointer (some ⟨B, 5, none⟩)
  | 5, v => v = .slice ab al acap
  | 6, v => v = .int .i64 al
  | 7, v => v = .pointer (some ⟨B, 2, none⟩)
  | 8, v => v = .int .i64 tn
  | 9, v => v = .bool true
  | 10, v => v = .bool true
  | 11, v => v = .pointer (some ⟨B, 2, none⟩)
  | 12, v => v = .int .i64 tn
  | 13, v => v = .pointer (some ⟨kb, 0, none⟩)
  | 14, v => v = .pointer (some ⟨kb, 0, none⟩)
  | 15, v => v = .pointer (some ⟨kb, 0, none⟩)
  | 16, v => v = .pointer (some ⟨kb, 0, none⟩)
  | 17, v => v = .slice Fb nf Fc
  | 18, v => v = .int .i64 nf
  | 19, v => v = .bool true
  | 20, v => v = .bool true
  | 21, v => v = .bool true
  | 22, v => v = .pointer (some ⟨B, 2, none⟩)
  | 23, v => v = .int .i64 tn
  | 24, v => v = .pointer (some ⟨kb, 0, none⟩)
  | 25, v => v = .pointer (some ⟨kb, 0, none⟩)
  | 26, v => v = .pointer (some ⟨kb, 0, none⟩)
  | 27, v => v = .pointer (some ⟨kb, 1, none⟩)
  | 28, v => v = .int .i64 main
  | 29, v => v = .bool false
  | 30, v => v = .bool false
  | 31, v => v = .bool false
  | 32, v => v = undef
  | 33, v => v = undef
  | 34, v => v = undef
  | 35, v => v = undef
  | 36, v => v = .bool false
  | 37, v => v = .pointer (some ⟨(B + 1), 1, none⟩)
  | 39, v => v = .pointer (some ⟨(B + 1), 2, none⟩)
  | 41, v => v = .int .i64 al
  | 42, v => v = .bool false
  | _, _ => True
set_option maxRecDepth 100000 in
theorem formed_9c' (tb : Option Addr) (tcap : Nat) (ab : Option Addr) (acap : Nat) (fb : Option Addr) (fcap : Nat) (nb : Option Addr) (ncap : Nat) (tx tn : Int) (ti : Bool) (tl al fl nl : Nat) (kb : Nat) (Fb : Option Addr) (nf Fc : Nat) (main : Int) (w : World) (hkb : kb < w.heap.size)
    (q0 : w.cell? ⟨kb, 0, none⟩ = some (.slice Fb nf Fc)) (q1 : w.cell? ⟨kb, 1, none⟩ = some (.int .i64 main)) (hnf : nf ≤ 4096) (t2 : tl ≤ 140737488355328) (a2 : al ≤ 140737488355328) (f2 : fl ≤ 140737488355328) (n2 : nl ≤ 140737488355328) (h1 : 0 ≤ tn) (h2 : tn < nf) (h3 : tn = main) :
    Calls Try.prog 36 #[.pointer (some ⟨kb, 0, none⟩), .agg #[.int .i64 9, .int .i64 tx, .int .i64 tn, .bool ti, .slice tb tl tcap, .slice ab al acap, .slice fb fl fcap, .slice nb nl ncap]] w fun e w' => e = .returned (.bool false) ∧ Below w.heap.size w w' := by
  have h3' : (tn != main) = false := by simpa using h3
  have H3 := Lib.hid h3'
  have HQ := Lib.hid (And.intro q0 q1)
  have HX := Lib.hid (BoxAt.new w [.int .i64 9, .int .i64 tx, .int .i64 tn, .bool ti, .slice tb tl tcap, .slice ab al acap, .slice fb fl fcap, .slice nb nl ncap] 34)
  have HB2 := Lib.hid (bgo (below_box w (.cells #[.int .i64 9, .int .i64 tx, .int .i64 tn, .bool ti, .slice tb tl tcap, .slice ab al acap, .slice fb fl fcap, .slice nb nl ncap] 34)) (below_box _ (.cells #[.int .i64 0, .int .i64 0, .int .i64 0, .bool false, .slice none 0 0, .slice none 0 0, .slice none 0 0, .slice none 0 0] 34)))
  have N0 := Lib.hid (new_cellsM (W := w.alloc (.cells #[.int .i64 9, .int .i64 tx, .int .i64 tn, .bool ti, .slice tb tl tcap, .slice ab al acap, .slice fb fl fcap, .slice nb nl ncap] 34)) (cs := [.int .i64 0, .int .i64 0, .int .i64 0, .bool false, .slice none 0 0, .slice none 0 0, .slice none 0 0, .slice none 0 0]) (t := 34) (b := w.heap.size + 1) (Below.refl _ _) (by simp))
  clear h3 h3' q0 q1
  go_enter Try.func36, Try.ntmps36
  go_wp2_with fail
  refine wp_region_relG [] (fun a b => R9 w.heap.size a b) (fun i v _ => f9Post w.heap.size kb tx tn main ab al acap Fb nf Fc i v) (by kernel_rfl) (by kernel_rfl) (fun _ _ _ h k => h.trans k) (R9.refl _ _) (fun _ _ _ _ h _ => h) (by kernel_rfl) ?_ ?_
  · refine ⟨?_, ?_, ?_, ?_, ?_, ?_, ?_, ?_, ?_, ?_, ?_, ?_, ?_, ?_, ?_, ?_, ?_, ?_, ?_, ?_, ?_, ?_, ?_, ?_, ?_, ?_, ?_, ?_, ?_, ?_, ?_, ?_, ?_, ?_, ?_, ?_, ?_, ?_, ?_, ?_, ?_, ?_, ?_, trivial⟩
    all_goals (first | (rw [if_pos (by decide)]; trivial) | rw [if_neg (by decide)])
    · intro a wx hR hold hpre
      refine .inl ⟨by simp [Region.wanted], fun K hK => ?_⟩
      have h1 := hold 3 (by decide)
      simp [Act.eval] at h1
      clear hold hpre
      go_simp
      exact hK _ _ (R9.refl _ _) (by simp [f9Post])
    · intro a wx hR hold hpre
      refine .inl ⟨by simp [Region.wanted], fun K hK => ?_⟩
      have p0 : a.eval (.tmp 71) = .pointer (some ⟨w.heap.size, 1, none⟩) := hpre 0 _ 71 rfl rfl (by kernel_rfl)
      simp [Act.eval] at p0
      clear hold hpre
      have c1 := (hR.bel.cell (p := ⟨w.heap.size, 1, none⟩) (Nat.lt_succ_self _)).trans ((HX.out.later (below_box _ _)).2 1 _ rfl)
      go_simp
      exact hK _ _ (R9.refl _ _) (by simp [f9Post])
    · intro a wx hR hold hpre
      refine .inl ⟨by simp [Region.wanted], fun K hK => ?_⟩
      have h1 := hold 3 (by decide)
      simp [Act.eval] at h1
      clear hold hpre
      go_simp
      exact hK _ _ (R9.refl _ _) (by simp [f9Post])
    · intro a wx hR hold hpre
      refine .inl ⟨by simp [Region.wanted], fun K hK => ?_⟩
      have p2 : a.eval (.tmp 73) = .pointer (some ⟨w.heap.size, 2, none⟩) := hpre 2 _ 73 rfl rfl (by kernel_rfl)
      simp [Act.eval] at p2
      clear hold hpre
      have c2 := (hR.bel.cell (p := ⟨w.heap.size, 2, none⟩) (Nat.lt_succ_self _)).trans ((HX.out.later (below_box _ _)).2 2 _ rfl)
      go_simp
      exact hK _ _ (R9.refl _ _) (by simp [f9Post])
    · intro a wx hR hold hpre
      refine .inl ⟨by simp [Region.wanted], fun K hK => ?_⟩
      have h1 := hold 3 (by decide)
      simp [Act.eval] at h1
      clear hold hpre
      go_simp
      exact hK _ _ (R9.refl _ _) (by simp [f9Post])
    · intro a wx hR hold hpre
      refine .inl ⟨by simp [Region.wanted], fun K hK => ?_⟩
      have p4 : a.eval (.tmp 75) = .pointer (some ⟨w.heap.size, 5, none⟩) := hpre 4 _ 75 rfl rfl (by kernel_rfl)
      simp [Act.eval] at p4
      clear hold hpre
      have c5 := (hR.bel.cell (p := ⟨w.heap.size, 5, none⟩) (Nat.lt_succ_self _)).trans ((HX.out.later (below_box _ _)).2 5 _ rfl)
      go_simp
      exact hK _ _ (R9.refl _ _) (by simp [f9Post])
    · intro a wx hR hold hpre
      refine .inl ⟨by simp [Region.wanted], fun K hK => ?_⟩
      have p5 : a.eval (.tmp 76) = .slice ab al acap := hpre 5 _ 76 rfl rfl (by kernel_rfl)
      simp [Act.eval] at p5
      clear hold hpre
      go_simp
      exact hK _ _ (R9.refl _ _) (by simp [f9Post])
    · intro a wx hR hold hpre
      refine .inl ⟨by simp [Region.wanted], fun K hK => ?_⟩
      have h1 := hold 3 (by decide)
      simp [Act.eval] at h1
      clear hold hpre
      go_simp
      exact hK _ _ (R9.refl _ _) (by simp [f9Post])
    · intro a wx hR hold hpre
      refine .inl ⟨by simp [Region.wanted], fun K hK => ?_⟩
      have p7 : a.eval (.tmp 78) = .pointer (some ⟨w.heap.size, 2, none⟩) := hpre 7 _ 78 rfl rfl (by kernel_rfl)
      simp [Act.eval] at p7
      clear hold hpre
      have c2 := (hR.bel.cell (p := ⟨w.heap.size, 2, none⟩) (Nat.lt_succ_self _)).trans ((HX.out.later (below_box _ _)).2 2 _ rfl)
      go_simp
      exact hK _ _ (R9.refl _ _) (by simp [f9Post])
    · intro a wx hR hold hpre
      refine .inl ⟨by simp [Region.wanted], fun K hK => ?_⟩
      have p8 : a.eval (.tmp 79) = .int .i64 tn := hpre 8 _ 79 rfl rfl (by kernel_rfl)
      simp [Act.eval] at p8
      clear hold hpre
      have d1 : decide (0 ≤ tn) = true := decide_eq_true h1
      go_simp
      exact hK _ _ (R9.refl _ _) (by simp [f9Post])
    · intro a wx hR hold hpre
      refine .inl ⟨by simp [Region.wanted], fun K hK => ?_⟩
      have p9 : a.eval (.tmp 80) = .bool true := hpre 9 _ 80 rfl rfl (by kernel_rfl)
      simp [Act.eval] at p9
      clear hold hpre
      go_simp
      exact hK _ _ (R9.refl _ _) (by simp [f9Post])
    · intro a wx hR hold hpre
      have hg := tmps_at (show a.eval (.tmp 81) = .bool true from hpre 10 _ 81 rfl rfl (by kernel_rfl))
      refine .inl ⟨by simp [Region.wanted, yielded, hg], fun K hK => ?_⟩
      clear hg
      have h1 := hold 3 (by decide)
      simp [Act.eval] at h1
      clear hold hpre
      go_simp
      exact hK _ _ (R9.refl _ _) (by simp [f9Post])
    · intro a wx hR hold hpre
      have hg := tmps_at (show a.eval (.tmp 81) = .bool true from hpre 10 _ 81 rfl rfl (by kernel_rfl))
      refine .inl ⟨by simp [Region.wanted, yielded, hg], fun K hK => ?_⟩
      clear hg
      have p11 : a.eval (.tmp 82) = .pointer (some ⟨w.heap.size, 2, none⟩) := hpre 11 _ 82 rfl rfl (by kernel_rfl)
      simp [Act.eval] at p11
      clear hold hpre
      have c2 := (hR.bel.cell (p := ⟨w.heap.size, 2, none⟩) (Nat.lt_succ_self _)).trans ((HX.out.later (below_box _ _)).2 2 _ rfl)
      go_simp
      exact hK _ _ (R9.refl _ _) (by simp [f9Post])
    · intro a wx hR hold hpre
      have hg := tmps_at (show a.eval (.tmp 81) = .bool true from hpre 10 _ 81 rfl rfl (by kernel_rfl))
      refine .inl ⟨by simp [Region.wanted, yielded, hg], fun K hK => ?_⟩
      clear hg
      have h1 := hold 0 (by decide)
      simp [Act.eval] at h1
      clear hold hpre
      go_simp
      exact hK _ _ (R9.refl _ _) (by simp [f9Post])
    · intro a wx hR hold hpre
      have hg := tmps_at (show a.eval (.tmp 81) = .bool true from hpre 10 _ 81 rfl rfl (by kernel_rfl))
      refine .inl ⟨by simp [Region.wanted, yielded, hg], fun K hK => ?_⟩
      clear hg
      have p13 : a.eval (.tmp 84) = .pointer (some ⟨kb, 0, none⟩) := hpre 13 _ 84 rfl rfl (by kernel_rfl)
      simp [Act.eval] at p13
      clear hold hpre
      go_simp
      exact hK _ _ (R9.refl _ _) (by simp [f9Post])
    · intro a wx hR hold hpre
      have hg := tmps_at (show a.eval (.tmp 81) = .bool true from hpre 10 _ 81 rfl rfl (by kernel_rfl))
      refine .inl ⟨by simp [Region.wanted, yielded, hg], fun K hK => ?_⟩
      clear hg
      have p14 : a.eval (.tmp 85) = .pointer (some ⟨kb, 0, none⟩) := hpre 14 _ 85 rfl rfl (by kernel_rfl)
      simp [Act.eval] at p14
      clear hold hpre
      go_simp
      exact hK _ _ (R9.refl _ _) (by simp [f9Post])
    · intro a wx hR hold hpre
      have hg := tmps_at (show a.eval (.tmp 81) = .bool true from hpre 10 _ 81 rfl rfl (by kernel_rfl))
      refine .inl ⟨by simp [Region.wanted, yielded, hg], fun K hK => ?_⟩
      clear hg
      have p15 : a.eval (.tmp 86) = .pointer (some ⟨kb, 0, none⟩) := hpre 15 _ 86 rfl rfl (by kernel_rfl)
      simp [Act.eval] at p15
      clear hold hpre
      go_simp
      exact hK _ _ (R9.refl _ _) (by simp [f9Post])
    · intro a wx hR hold hpre
      have hg := tmps_at (show a.eval (.tmp 81) = .bool true from hpre 10 _ 81 rfl rfl (by kernel_rfl))
      refine .inl ⟨by simp [Region.wanted, yielded, hg], fun K hK => ?_⟩
      clear hg
      have p16 : a.eval (.tmp 87) = .pointer (some ⟨kb, 0, none⟩) := hpre 16 _ 87 rfl rfl (by kernel_rfl)
      simp [Act.eval] at p16
      clear hold hpre
      have k0 := ((HB2.out.drew.trans (hR.bel.mono (Nat.le_succ _))).cell (p := ⟨kb, 0, none⟩) hkb).trans HQ.out.1
      go_simp
      exact hK _ _ (R9.refl _ _) (by simp [f9Post])
    · intro a wx hR hold hpre
      have hg := tmps_at (show a.eval (.tmp 81) = .bool true from hpre 10 _ 81 rfl rfl (by kernel_rfl))
      refine .inl ⟨by simp [Region.wanted, yielded, hg], fun K hK => ?_⟩
      clear hg
      have p17 : a.eval (.tmp 88) = .slice Fb nf Fc := hpre 17 _ 88 rfl rfl (by kernel_rfl)
      simp [Act.eval] at p17
      clear hold hpre
      go_simp
      exact hK _ _ (R9.refl _ _) (by simp [f9Post])
    · intro a wx hR hold hpre
      have hg := tmps_at (show a.eval (.tmp 81) = .bool true from hpre 10 _ 81 rfl rfl (by kernel_rfl))
      refine .inl ⟨by simp [Region.wanted, yielded, hg], fun K hK => ?_⟩
      clear hg
      have p12 : a.eval (.tmp 83) = .int .i64 tn := hpre 12 _ 83 rfl rfl (by kernel_rfl)
      have p18 : a.eval (.tmp 89) = .int .i64 nf := hpre 18 _ 89 rfl rfl (by kernel_rfl)
      simp [Act.eval] at p12 p18
      clear hold hpre
      have d2 : decide (tn < (nf : Int)) = true := decide_eq_true h2
      go_simp
      exact hK _ _ (R9.refl _ _) (by simp [f9Post])
    · intro a wx hR hold hpre
      refine .inl ⟨by simp [Region.wanted], fun K hK => ?_⟩
      have p10 : a.eval (.tmp 81) = .bool true := hpre 10 _ 81 rfl rfl (by kernel_rfl)
      have p19 : a.eval (.tmp 90) = .bool true := hpre 19 _ 90 rfl rfl (by kernel_rfl)
      simp [Act.eval] at p10 p19
      clear hold hpre
      go_simp
      exact hK _ _ (R9.refl _ _) (by simp [f9Post])
    · intro a wx hR hold hpre
      refine .inl ⟨by simp [Region.wanted], fun K hK => ?_⟩
      have p20 : a.eval (.tmp 91) = .bool true := hpre 20 _ 91 rfl rfl (by kernel_rfl)
      simp [Act.eval] at p20
      clear hold hpre
      go_simp
      exact hK _ _ (R9.refl _ _) (by simp [f9Post])
    · intro a wx hR hold hpre
      have hg := tmps_at (show a.eval (.tmp 92) = .bool true from hpre 21 _ 92 rfl rfl (by kernel_rfl))
      refine .inl ⟨by simp [Region.wanted, yielded, hg], fun K hK => ?_⟩
      clear hg
      have h1 := hold 3 (by decide)
      simp [Act.eval] at h1
      clear hold hpre
      go_simp
      exact hK _ _ (R9.refl _ _) (by simp [f9Post])
    · intro a wx hR hold hpre
      have hg := tmps_at (show a.eval (.tmp 92) = .bool true from hpre 21 _ 92 rfl rfl (by kernel_rfl))
      refine .inl ⟨by simp [Region.wanted, yielded, hg], fun K hK => ?_⟩
      clear hg
      have p22 : a.eval (.tmp 93) = .pointer (some ⟨w.heap.size, 2, none⟩) := hpre 22 _ 93 rfl rfl (by kernel_rfl)
      simp [Act.eval] at p22
      clear hold hpre
      have c2 := (hR.bel.cell (p := ⟨w.heap.size, 2, none⟩) (Nat.lt_succ_self _)).trans ((HX.out.later (below_box _ _)).2 2 _ rfl)
      go_simp
      exact hK _ _ (R9.refl _ _) (by simp [f9Post])
    · intro a wx hR hold hpre
      have hg := tmps_at (show a.eval (.tmp 92) = .bool true from hpre 21 _ 92 rfl rfl (by kernel_rfl))
      refine .inl ⟨by simp [Region.wanted, yielded, hg], fun K hK => ?_⟩
      clear hg
      have h1 := hold 0 (by decide)
      simp [Act.eval] at h1
      clear hold hpre
      go_simp
      exact hK _ _ (R9.refl _ _) (by simp [f9Post])
    · intro a wx hR hold hpre
      have hg := tmps_at (show a.eval (.tmp 92) = .bool true from hpre 21 _ 92 rfl rfl (by kernel_rfl))
      refine .inl ⟨by simp [Region.wanted, yielded, hg], fun K hK => ?_⟩
      clear hg
      have p24 : a.eval (.tmp 95) = .pointer (some ⟨kb, 0, none⟩) := hpre 24 _ 95 rfl rfl (by kernel_rfl)
      simp [Act.eval] at p24
      clear hold hpre
      go_simp
      exact hK _ _ (R9.refl _ _) (by simp [f9Post])
    · intro a wx hR hold hpre
      have hg := tmps_at (show a.eval (.tmp 92) = .bool true from hpre 21 _ 92 rfl rfl (by kernel_rfl))
      refine .inl ⟨by simp [Region.wanted, yielded, hg], fun K hK => ?_⟩
      clear hg
      have p25 : a.eval (.tmp 96) = .pointer (some ⟨kb, 0, none⟩) := hpre 25 _ 96 rfl rfl (by kernel_rfl)
      simp [Act.eval] at p25
      clear hold hpre
      go_simp
      exact hK _ _ (R9.refl _ _) (by simp [f9Post])
    · intro a wx hR hold hpre
      have hg := tmps_at (show a.eval (.tmp 92) = .bool true from hpre 21 _ 92 rfl rfl (by kernel_rfl))
      refine .inl ⟨by simp [Region.wanted, yielded, hg], fun K hK => ?_⟩
      clear hg
      have p26 : a.eval (.tmp 97) = .pointer (some ⟨kb, 0, none⟩) := hpre 26 _ 97 rfl rfl (by kernel_rfl)
      simp [Act.eval] at p26
      clear hold hpre
      go_simp
      exact hK _ _ (R9.refl _ _) (by simp [f9Post])
    · intro a wx hR hold hpre
      have hg := tmps_at (show a.eval (.tmp 92) = .bool true from hpre 21 _ 92 rfl rfl (by kernel_rfl))
      refine .inl ⟨by simp [Region.wanted, yielded, hg], fun K hK => ?_⟩
      clear hg
      have p27 : a.eval (.tmp 98) = .pointer (some ⟨kb, 1, none⟩) := hpre 27 _ 98 rfl rfl (by kernel_rfl)
      simp [Act.eval] at p27
      clear hold hpre
      have k1 := ((HB2.out.drew.trans (hR.bel.mono (Nat.le_succ _))).cell (p := ⟨kb, 1, none⟩) hkb).trans HQ.out.2
      go_simp
      exact hK _ _ (R9.refl _ _) (by simp [f9Post])
    · intro a wx hR hold hpre
      have hg := tmps_at (show a.eval (.tmp 92) = .bool true from hpre 21 _ 92 rfl rfl (by kernel_rfl))
      refine .inl ⟨by simp [Region.wanted, yielded, hg], fun K hK => ?_⟩
      clear hg
      have p23 : a.eval (.tmp 94) = .int .i64 tn := hpre 23 _ 94 rfl rfl (by kernel_rfl)
      have p28 : a.eval (.tmp 99) = .int .i64 main := hpre 28 _ 99 rfl rfl (by kernel_rfl)
      simp [Act.eval] at p23 p28
      clear hold hpre
      have d3 := H3.out
      go_simp
      exact hK _ _ (R9.refl _ _) (by simp [f9Post])
    · intro a wx hR hold hpre
      refine .inl ⟨by simp [Region.wanted], fun K hK => ?_⟩
      have p21 : a.eval (.tmp 92) = .bool true := hpre 21 _ 92 rfl rfl (by kernel_rfl)
      have p29 : a.eval (.tmp 100) = .bool false := hpre 29 _ 100 rfl rfl (by kernel_rfl)
      simp [Act.eval] at p21 p29
      clear hold hpre
      go_simp
      exact hK _ _ (R9.refl _ _) (by simp [f9Post])
    · intro a wx hR hold hpre
      refine .inl ⟨by simp [Region.wanted], fun K hK => ?_⟩
      have p30 : a.eval (.tmp 101) = .bool false := hpre 30 _ 101 rfl rfl (by kernel_rfl)
      simp [Act.eval] at p30
      clear hold hpre
      go_simp
      exact hK _ _ (R9.refl _ _) (by simp [f9Post])
    · intro a wx hR hold hpre
      have hg := tmps_at (show a.eval (.tmp 102) = .bool false from hpre 31 _ 102 rfl rfl (by kernel_rfl))
      exact .inr ⟨by simp [Region.wanted, yielded, hg], R9.refl _ _, rfl⟩
    · intro a wx hR hold hpre
      have hg := tmps_at (show a.eval (.tmp 102) = .bool false from hpre 31 _ 102 rfl rfl (by kernel_rfl))
      exact .inr ⟨by simp [Region.wanted, yielded, hg], R9.refl _ _, rfl⟩
    · intro a wx hR hold hpre
      have hg := tmps_at (show a.eval (.tmp 102) = .bool false from hpre 31 _ 102 rfl rfl (by kernel_rfl))
      exact .inr ⟨by simp [Region.wanted, yielded, hg], R9.refl _ _, rfl⟩
    · intro a wx hR hold hpre
      have hg := tmps_at (show a.eval (.tmp 102) = .bool false from hpre 31 _ 102 rfl rfl (by kernel_rfl))
      exact .inr ⟨by simp [Region.wanted, yielded, hg], R9.refl _ _, rfl⟩
    · intro a wx hR hold hpre
      refine .inl ⟨by simp [Region.wanted], fun K hK => ?_⟩
      have p31 : a.eval (.tmp 102) = .bool false := hpre 31 _ 102 rfl rfl (by kernel_rfl)
      simp [Act.eval] at p31
      clear hold hpre
      go_simp
      exact hK _ _ (R9.refl _ _) (by simp [f9Post])
    · intro a wx hR hold hpre
      refine .inl ⟨by simp [Region.wanted], fun K hK => ?_⟩
      have h1 := hold 5 (by decide)
      simp [Act.eval] at h1
      clear hold hpre
      go_simp
      exact hK _ _ (R9.refl _ _) (by simp [f9Post])
    · intro a wx hR hold hpre
      refine .inl ⟨by simp [Region.wanted], fun K hK => ?_⟩
      have p37 : a.eval (.tmp 108) = .pointer (some ⟨w.heap.size + 1, 1, none⟩) := hpre 37 _ 108 rfl rfl (by kernel_rfl)
      have p1 : a.eval (.tmp 72) = .int .i64 tx := hpre 1 _ 72 rfl rfl (by kernel_rfl)
      simp [Act.eval] at p37 p1
      clear hold hpre
      obtain ⟨y, hy⟩ := hR.one 1 _ (N0.out.1.2 1 _ rfl)
      have hz := (hR.ice 1).trans (N0.out.2 1)
      go_simp
      exact hK undef _ (R9.set _ _ _ _) trivial
    · intro a wx hR hold hpre
      refine .inl ⟨by simp [Region.wanted], fun K hK => ?_⟩
      have h1 := hold 5 (by decide)
      simp [Act.eval] at h1
      clear hold hpre
      go_simp
      exact hK _ _ (R9.refl _ _) (by simp [f9Post])
    · intro a wx hR hold hpre
      refine .inl ⟨by simp [Region.wanted], fun K hK => ?_⟩
      have p39 : a.eval (.tmp 109) = .pointer (some ⟨w.heap.size + 1, 2, none⟩) := hpre 39 _ 109 rfl rfl (by kernel_rfl)
      have p3 : a.eval (.tmp 74) = .int .i64 tn := hpre 3 _ 74 rfl rfl (by kernel_rfl)
      simp [Act.eval] at p39 p3
      clear hold hpre
      obtain ⟨y, hy⟩ := hR.one 2 _ (N0.out.1.2 2 _ rfl)
      have hz := (hR.ice 2).trans (N0.out.2 2)
      go_simp
      exact hK undef _ (R9.set _ _ _ _) trivial
    · intro a wx hR hold hpre
      refine .inl ⟨by simp [Region.wanted], fun K hK => ?_⟩
      have p6 : a.eval (.tmp 77) = .int .i64 al := hpre 6 _ 77 rfl rfl (by kernel_rfl)
      simp [Act.eval] at p6
      clear hold hpre
      go_simp
      exact hK _ _ (R9.refl _ _) (by simp [f9Post])
    · intro a wx hR hold hpre
      refine .inl ⟨by simp [Region.wanted], fun K hK => ?_⟩
      have p36 : a.eval (.tmp 107) = .bool false := hpre 36 _ 107 rfl rfl (by kernel_rfl)
      simp [Act.eval] at p36
      clear hold hpre
      go_simp
      exact hK _ _ (R9.refl _ _) (by simp [f9Post])
  · intro vals w3 hR hv
    have e0 : vals 0 = .pointer (some ⟨w.heap.size, 1, none⟩) := hv 0 _ 71 rfl rfl (by kernel_rfl)
    have e1 : vals 1 = .int .i64 tx := hv 1 _ 72 rfl rfl (by kernel_rfl)
    have e2 : vals 2 = .pointer (some ⟨w.heap.size, 2, none⟩) := hv 2 _ 73 rfl rfl (by kernel_rfl)
    have e3 : vals 3 = .int .i64 tn := hv 3 _ 74 rfl rfl (by kernel_rfl)
    have e4 : vals 4 = .pointer (some ⟨w.heap.size, 5, none⟩) := hv 4 _ 75 rfl rfl (by kernel_rfl)
    have e5 : vals 5 = .slice ab al acap := hv 5 _ 76 rfl rfl (by kernel_rfl)
    have e6 : vals 6 = .int .i64 al := hv 6 _ 77 rfl rfl (by kernel_rfl)
    have e7 : vals 7 = .pointer (some ⟨w.heap.size, 2, none⟩) := hv 7 _ 78 rfl rfl (by kernel_rfl)
    have e8 : vals 8 = .int .i64 tn := hv 8 _ 79 rfl rfl (by kernel_rfl)
    have e9 : vals 9 = .bool true := hv 9 _ 80 rfl rfl (by kernel_rfl)
    have e10 : vals 10 = .bool true := hv 10 _ 81 rfl rfl (by kernel_rfl)
    have e11 : vals 11 = .pointer (some ⟨w.heap.size, 2, none⟩) := hv 11 _ 82 rfl rfl (by kernel_rfl)
    have e12 : vals 12 = .int .i64 tn := hv 12 _ 83 rfl rfl (by kernel_rfl)
    have e13 : vals 13 = .pointer (some ⟨kb, 0, none⟩) := hv 13 _ 84 rfl rfl (by kernel_rfl)
    have e14 : vals 14 = .pointer (some ⟨kb, 0, none⟩) := hv 14 _ 85 rfl rfl (by kernel_rfl)
    have e15 : vals 15 = .pointer (some ⟨kb, 0, none⟩) := hv 15 _ 86 rfl rfl (by kernel_rfl)
    have e16 : vals 16 = .pointer (some ⟨kb, 0, none⟩) := hv 16 _ 87 rfl rfl (by kernel_rfl)
    have e17 : vals 17 = .slice Fb nf Fc := hv 17 _ 88 rfl rfl (by kernel_rfl)
    have e18 : vals 18 = .int .i64 nf := hv 18 _ 89 rfl rfl (by kernel_rfl)
    have e19 : vals 19 = .bool true := hv 19 _ 90 rfl rfl (by kernel_rfl)
    have e20 : vals 20 = .bool true := hv 20 _ 91 rfl rfl (by kernel_rfl)
    have e21 : vals 21 = .bool true := hv 21 _ 92 rfl rfl (by kernel_rfl)
    have e22 : vals 22 = .pointer (some ⟨w.heap.size, 2, none⟩) := hv 22 _ 93 rfl rfl (by kernel_rfl)
    have e23 : vals 23 = .int .i64 tn := hv 23 _ 94 rfl rfl (by kernel_rfl)
    have e24 : vals 24 = .pointer (some ⟨kb, 0, none⟩) := hv 24 _ 95 rfl rfl (by kernel_rfl)
    have e25 : vals 25 = .pointer (some ⟨kb, 0, none⟩) := hv 25 _ 96 rfl rfl (by kernel_rfl)
    have e26 : vals 26 = .pointer (some ⟨kb, 0, none⟩) := hv 26 _ 97 rfl rfl (by kernel_rfl)
    have e27 : vals 27 = .pointer (some ⟨kb, 1, none⟩) := hv 27 _ 98 rfl rfl (by kernel_rfl)
    have e28 : vals 28 = .int .i64 main := hv 28 _ 99 rfl rfl (by kernel_rfl)
    have e29 : vals 29 = .bool false := hv 29 _ 100 rfl rfl (by kernel_rfl)
    have e30 : vals 30 = .bool false := hv 30 _ 101 rfl rfl (by kernel_rfl)
    have e31 : vals 31 = .bool false := hv 31 _ 102 rfl rfl (by kernel_rfl)
    have e32 : vals 32 = undef := hv 32 _ 103 rfl rfl (by kernel_rfl)
    have e33 : vals 33 = undef := hv 33 _ 104 rfl rfl (by kernel_rfl)
    have e34 : vals 34 = undef := hv 34 _ 105 rfl rfl (by kernel_rfl)
    have e35 : vals 35 = undef := hv 35 _ 106 rfl rfl (by kernel_rfl)
    have e36 : vals 36 = .bool false := hv 36 _ 107 rfl rfl (by kernel_rfl)
    have e37 : vals 37 = .pointer (some ⟨(w.heap.size + 1), 1, none⟩) := hv 37 _ 108 rfl rfl (by kernel_rfl)
    have e39 : vals 39 = .pointer (some ⟨(w.heap.size + 1), 2, none⟩) := hv 39 _ 109 rfl rfl (by kernel_rfl)
    have e41 : vals 41 = .int .i64 al := hv 41 _ 6 rfl rfl (by kernel_rfl)
    have e42 : vals 42 = .bool false := hv 42 _ 8 rfl rfl (by kernel_rfl)
    have HB3 := Lib.hid (HB2.out.drew.trans (hR.bel.mono (Nat.le_succ _)))
    simp only [fillA, List.contains_cons, List.contains_nil, Nat.reduceAdd, Nat.reduceBEq, Bool.or_false, Bool.or_true, Bool.false_eq_true, if_true, if_false, Act.put, List.setIfInBounds_toArray, List.set_cons_zero, List.set_cons_succ, e0, e1, e2, e3, e4, e5, e6, e7, e8, e9, e10, e11, e12, e13, e14, e15, e16, e17, e18, e19, e20, e21, e22, e23, e24, e25, e26, e27, e28, e29, e30, e31, e32, e33, e34, e35, e36, e37, e39, e41, e42]
    simp only [List.filterMap_cons, List.filterMap_nil, List.getElem?_toArray, List.getElem?_cons_succ, List.getElem?_cons_zero]
    clear hv e0 e1 e2 e3 e4 e5 e6 e7 e8 e9 e10 e11 e12 e13 e14 e15 e16 e17 e18 e19 e20 e21 e22 e23 e24 e25 e26 e27 e28 e29 e30 e31 e32 e33 e34 e35 e36 e37 e39 e41 e42 hR
    go_wp2_with fail
    go_ret
    exact ⟨rfl, by repeat (first | exact HB3.out | apply Below.drew | (refine Below.setCell ?_ (by simp) _))⟩
theorem formed_9c {m : Mp} {t : Term} {tb tcap ab acap fb fcap nb ncap} (O : Opn m t tb tcap ab acap fb fcap nb ncap) (k9 : t.kind = 9) (kb : Nat)  (Fb : Option Addr) (nf Fc : Nat) (main : Int) (w : World) (hm : Ag m w) (hkb : kb < w.heap.size)
    (q0 : w.cell? ⟨kb, 0, none⟩ = some (.slice Fb nf Fc)) (q1 : w.cell? ⟨kb, 1, none⟩ = some (.int .i64 main)) (hnf : nf ≤ 4096) (h1 : 0 ≤ t.n) (h2 : t.n < nf) (h3 : t.n = main) :
    Calls Try.prog 36 #[.pointer (some ⟨kb, 0, none⟩), .agg #[.int .i64 t.kind, .int .i64 t.x, .int .i64 t.n, .bool t.ints, .slice tb t.tags.length tcap, .slice ab t.args.length acap, .slice fb t.funs.length fcap, .slice nb t.next.length ncap]] w fun e w' => e = .returned (.bool (formedB nf main t)) ∧ Below w.heap.size w w' := by
  have hfb : formedB nf main t = false := by
    rw [formedB_9 k9]
    refine decide_eq_false (fun h => ?_)
    simp_all
  rw [hfb, k9]
  exact formed_9c' tb tcap ab acap fb fcap nb ncap t.x t.n t.ints _ _ _ _ kb Fb nf Fc main w hkb q0 q1 hnf O.tags.len O.args.len O.fbd O.nbd h1 h2 h3
end Go.Proofs.Ytimljadlfhccpaa
