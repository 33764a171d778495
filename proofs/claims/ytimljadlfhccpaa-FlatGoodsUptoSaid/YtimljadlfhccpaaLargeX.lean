/- A flat program of one function that is a single small term is not large. -/
import Derived.Test.YtimljadlfhccpaaProg
import Derived.Test.YtimljadlfhccpaaMA
set_option linter.all false
set_option linter.all false
namespace Go.Proofs.Ytimljadlfhccpaa
open Go.RowKit
set_option maxHeartbeats 1000000

theorem gen_wpL {P : Program} {c : Code} {Q : Exit → Act → World → Prop} {a : Act} {W : World} (F : World → Prop) (h1 : F W) (h2 : ∀ W', F W' → c.wp P Q a W') : c.wp P Q a W := h2 W h1
/-- A term by itself. -/
theorem weigh_leaf {m : Mp} {c : List Value} {t : Term} (hr : RTerm m c t) (deep n : Int) (w : World) (hm : Ag m w) (h1 : t.funs.length = 0) (h2 : t.next.length = 0) (h3 : t.args.length + t.tags.length < 10) (hd : 0 ≤ deep) (hd2 : deep ≤ 1000) (hn : 0 ≤ n) (hn2 : n ≤ 1000) :
    Calls Try.prog 27 #[.agg c.toArray, .int .i64 deep, .int .i64 n] w fun e w' => e = .returned (.int .i64 (n + 1)) ∧ Below w.heap.size w w' := by
  obtain ⟨tb, tcap, ab, acap, fb, fcap, nb, ncap, rfl, O⟩ := hr.opn
  rw [h1, h2]
  have he : (t.args.length + t.tags.length : Int) / 10 = 0 := by omega
  have HE := Lib.hid he
  have hq1 : 0 ≤ (t.args.length + t.tags.length : Int) / 10 := by omega
  have hq2 : (t.args.length + t.tags.length : Int) / 10 ≤ 0 := by omega
  clear hr O hm h1 h2 he
  go_enter Try.func27, Try.ntmps27
  go_wp2_with fail
  refine wp_loop_rounds 1 ?_
  rw [rounds_succ]
  go_wp2_with fail
  refine wp_loop_rounds 1 ?_
  rw [rounds_succ]
  go_wp2_with fail
  go_ret
  exact ⟨by rw [HE.out]; rfl, below_box _ _⟩
set_option maxRecDepth 100000 in
/-- A term that holds one function, which is a term by itself. -/
theorem weigh_one {m : Mp} {c : List Value} {t : Term} (hr : RTerm m c t) (w : World) (hm : Ag m w) (h1 : t.funs.length = 1) (h2 : t.next.length = 0) (h3 : t.args.length + t.tags.length < 9) (hp : (t.funs[0]'(by omega)).2.1.length < 10)
    (k1 : (t.funs[0]'(by omega)).2.2.funs.length = 0) (k2 : (t.funs[0]'(by omega)).2.2.next.length = 0) (k3 : (t.funs[0]'(by omega)).2.2.args.length + (t.funs[0]'(by omega)).2.2.tags.length < 10) :
    Calls Try.prog 27 #[.agg c.toArray, .int .i64 0, .int .i64 0] w fun e w' => e = .returned (.int .i64 2) ∧ Below w.heap.size w w' := by
  obtain ⟨tb, tcap, ab, acap, fb, fcap, nb, ncap, rfl, O⟩ := hr.opn
  obtain ⟨b, o, pb', pc', tb', tc', ab', ac', fb', fc', nb', nc', rfl, ik, hpp, hrt, hcell⟩ := O.funsAt 0 (by omega)
  have hf1 := O.fle
  have HC := Lib.hid (fun (n : Int) (hn : 0 ≤ n) (hn2 : n ≤ 1000) (wx : World) (hb : Below w.heap.size w wx) => weigh_leaf hrt 1 n wx (hm.later hb) k1 k2 k3 (by omega) (by omega) hn hn2)
  have HF : Hid (∀ wx : World, Below w.heap.size w wx → wx.cell? ⟨b, o, none⟩ = some (.int .i64 (t.funs[0]'(by omega)).1) ∧ wx.cell? ⟨b, o + 1, none⟩ = some (.slice pb' (t.funs[0]'(by omega)).2.1.length pc') ∧ wx.cell? ⟨b, o + 2, none⟩ = some (.int .i64 (t.funs[0]'(by omega)).2.2.kind) ∧ wx.cell? ⟨b, o + 3, none⟩ = some (.int .i64 (t.funs[0]'(by omega)).2.2.x) ∧ wx.cell? ⟨b, o + 4, none⟩ = some (.int .i64 (t.funs[0]'(by omega)).2.2.n) ∧ wx.cell? ⟨b, o + 5, none⟩ = some (.bool (t.funs[0]'(by omega)).2.2.ints) ∧ wx.cell? ⟨b, o + 6, none⟩ = some (.slice tb' (t.funs[0]'(by omega)).2.2.tags.length tc') ∧ wx.cell? ⟨b, o + 7, none⟩ = some (.slice ab' (t.funs[0]'(by omega)).2.2.args.length ac') ∧ wx.cell? ⟨b, o + 8, none⟩ = some (.slice fb' (t.funs[0]'(by omega)).2.2.funs.length fc') ∧ wx.cell? ⟨b, o + 9, none⟩ = some (.slice nb' (t.funs[0]'(by omega)).2.2.next.length nc')) := Lib.hid (fun wx hb => by
    obtain ⟨x0, x1, e0, e1, e2, e3, e4, e5, e6, e7⟩ := hcell wx (hm.later hb)
    simp only [Nat.zero_mul, Nat.add_zero] at x0 x1 e0 e1 e2 e3 e4 e5 e6 e7
    exact ⟨x0, x1, e0, flat7 e1 e2 e3 e4 e5 e6 e7⟩)
  rw [h1] at hf1 ⊢
  rw [h2]
  have he : (t.args.length + t.tags.length + 1 : Int) / 10 = 0 := by omega
  have hz1 : 0 ≤ (t.args.length + t.tags.length + 1 : Int) / 10 := by omega
  have hz2 : (t.args.length + t.tags.length + 1 : Int) / 10 ≤ 0 := by omega
  have hp0 : ((t.funs[0]'(by omega)).2.1.length : Int) / 10 = 0 := by omega
  have hp1 : 0 ≤ ((t.funs[0]'(by omega)).2.1.length : Int) / 10 := by omega
  have hp2 : ((t.funs[0]'(by omega)).2.1.length : Int) / 10 ≤ 0 := by omega
  have HE := Lib.hid he
  have HP := Lib.hid hp0
  simp only [k1, k2] at HC HF
  clear hr O hm h2 hcell hrt hpp he hp0 k1 k2
  go_enter Try.func27, Try.ntmps27
  go_wp2_with fail
  refine wp_loop_rounds 2 ?_
  rw [rounds_succ]
  go_wp2_with fail
  refine gen_wpL (fun wx => Hid (Below w.heap.size w wx ∧ BoxAt w.heap.size wx [.int .i64 t.kind, .int .i64 t.x, .int .i64 t.n, .bool t.ints, .slice tb t.tags.length tcap, .slice ab t.args.length acap, .slice (some ⟨b, o, none⟩) 1 fcap, .slice nb 0 ncap])) (Lib.hid ⟨below_box _ _, BoxAt.new w [.int .i64 t.kind, .int .i64 t.x, .int .i64 t.n, .bool t.ints, .slice tb t.tags.length tcap, .slice ab t.args.length acap, .slice (some ⟨b, o, none⟩) 1 fcap, .slice nb 0 ncap] 34⟩) ?_
  intro wr HW
  have c6 := HW.out.2.2 6 _ rfl
  obtain ⟨f1, f2, f3, f4, f5, f6, f7, f8, f9, f10⟩ := HF.out wr HW.out.1
  go_still_tail 18, (by kernel_rfl)
  go_wp2_with (go_at_call 27; with_reducible refine (HC.out _ (by omega) (by omega) _ HW.out.1.drew).mono ?_; rintro e w3 ⟨rfl, hb3⟩)
  rw [rounds_succ]
  have hX := HW.out.2.later (bgo (Below.refl _ _).drew hb3)
  have c63 := hX.2 6 _ rfl
  have c73 := hX.2 7 _ rfl
  go_wp2_with fail
  refine wp_loop_rounds 1 ?_
  rw [rounds_succ]
  go_wp2_with fail
  go_ret
  exact ⟨by rw [HE.out, HP.out]; rfl, bgo HW.out.1.drew hb3⟩
theorem large25_one {m : Mp} {v : Value} {f : Flat} {g : Int × List Int × Term} (hr : RFlat m v f) (w : World) (hm : Ag m w) (hf : f.funs = [g]) (hp : g.2.1.length < 10) (k1 : g.2.2.funs.length = 0) (k2 : g.2.2.next.length = 0) (k3 : g.2.2.args.length + g.2.2.tags.length < 10) :
    Calls Try.prog 5 #[.agg #[v, .int .i64 f.main]] w fun e w' => e = .returned (.bool false) ∧ Below w.heap.size w w' := by
  obtain ⟨fb, fcap, rfl, f1, f2, F3⟩ := hr.1.opn
  have H := Lib.hid hr.1.term
  have hl : f.funs.length = 1 := by rw [hf]; rfl
  have HC := Lib.hid (fun (wx : World) (hb : Below w.heap.size w wx) => weigh_one (t := .mk 0 0 0 false [] [] f.funs []) hr.1.term wx (hm.later hb) hl rfl (by simp [Term.args, Term.tags]) (by simp only [Term.funs, hf]; exact hp) (by simp only [Term.funs, hf]; exact k1) (by simp only [Term.funs, hf]; exact k2) (by simp only [Term.funs, hf]; exact k3))
  have HL : Hid (∀ (wx : World) (hb : Below w.heap.size w wx), Calls Try.prog 13 #[.agg #[.int .i64 0, .int .i64 0, .int .i64 0, .bool false, .slice none 0 0, .slice none 0 0, .slice fb f.funs.length fcap, .slice none 0 0]] wx fun e w' => e = .returned (.bool false) ∧ Below wx.heap.size wx w') := Lib.hid (fun wx hb => by
    have HB := Lib.hid hb
    clear hb H hr hm hl hf F3 f1 f2 hp k1 k2 k3
    go_enter Try.func13, Try.ntmps13
    go_wp2_with (go_at_call 27; refine (HC.out _ (bgo HB.out (below_box _ _))).mono ?_; rintro e w1 ⟨rfl, hb1⟩)
    go_ret
    exact ⟨rfl, bgo (below_box _ _) hb1⟩)
  have hl2 : ¬ 5000 < f.funs.length := by omega
  clear hr hm H hf hl HC F3 hp k1 k2 k3
  go_enter Try.func5, Try.ntmps5
  go_wp2_with (go_at_call 13; refine (HL.out _ (below_box _ _)).mono ?_; rintro e w1 ⟨rfl, hb1⟩)
  go_ret
  exact ⟨congrArg (fun b => Ending.returned (.bool b)) (show decide (5000 < (f.funs.length : Int)) = false by simp; omega), bgo (below_box _ _) hb1⟩
end Go.Proofs.Ytimljadlfhccpaa
