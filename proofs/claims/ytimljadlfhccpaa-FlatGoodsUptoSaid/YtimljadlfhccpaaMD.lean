/- What a term's kind has: the program's own test, kind by kind. What a term's kind has: the program's own test, kinds 4 and beyond. -/
import Derived.Test.YtimljadlfhccpaaProg
import Derived.Test.YtimljadlfhccpaaMB
import Derived.Deep.RegionHeld3
set_option linter.all false
set_option linter.all false
set_option linter.all false
set_option linter.all false
namespace Go.Proofs.Ytimljadlfhccpaa
open Go.RowKit
set_option maxHeartbeats 4000000

theorem BoxAt.drew {B : Nat} {w : World} {cs : List Value} (h : BoxAt B w cs) : BoxAt B w.drew cs := h
theorem bcell {W w1 : World} (hb : Below W.heap.size W w1) : (∀ b o, b < W.heap.size → w1.cell? ⟨b, o, none⟩ = W.cell? ⟨b, o, none⟩) ∧ (∀ b o, b < W.heap.size → w1.frozen? ⟨b, o, none⟩ = W.frozen? ⟨b, o, none⟩) :=
  ⟨fun b o h => hb.cell (p := ⟨b, o, none⟩) h, fun b o h => hb.frozen (p := ⟨b, o, none⟩) h⟩
set_option maxRecDepth 100000 in
theorem formed_6 {m : Mp} {t : Term} {tb tcap ab acap fb fcap nb ncap} (O : Opn m t tb tcap ab acap fb fcap nb ncap) (k6 : t.kind = 6) (hr : RTerm m [.int .i64 t.kind, .int .i64 t.x, .int .i64 t.n, .bool t.ints, .slice tb t.tags.length tcap, .slice ab t.args.length acap, .slice fb t.funs.length fcap, .slice nb t.next.length ncap] t) (kb : Nat) (Fb : Option Addr) (nf Fc : Nat) (main : Int) (w : World) (hm : Ag m w) (hkb : kb < w.heap.size)
    (q0 : w.cell? ⟨kb, 0, none⟩ = some (.slice Fb nf Fc)) (q1 : w.cell? ⟨kb, 1, none⟩ = some (.int .i64 main)) (hnf : nf ≤ 4096) :
    Calls Try.prog 36 #[.pointer (some ⟨kb, 0, none⟩), .agg #[.int .i64 t.kind, .int .i64 t.x, .int .i64 t.n, .bool t.ints, .slice tb t.tags.length tcap, .slice ab t.args.length acap, .slice fb t.funs.length fcap, .slice nb t.next.length ncap]] w fun e w' => e = .returned (.bool (formedB nf main t)) ∧ Below w.heap.size w w' := by
  have HM := Lib.hid hm
  have HT := Lib.hid O
  have t2 := O.tags.len
  have a2 := O.args.len
  have f2 := O.fbd
  have n2 := O.nbd
  have K := Lib.hid k6
  rw [k6] at hr
  have HR := Lib.hid hr
  clear hm O hr
  go_enter Try.func36, Try.ntmps36
  go_wp2_with fail
  go_region_held3 (fun wx => wx.cell? ⟨w.heap.size, 0, none⟩ = some (Value.int .i64 6) ∧ wx.cell? ⟨w.heap.size, 1, none⟩ = some (Value.int .i64 t.x) ∧ wx.cell? ⟨w.heap.size, 2, none⟩ = some (Value.int .i64 t.n) ∧ wx.cell? ⟨w.heap.size, 3, none⟩ = some (Value.bool t.ints) ∧ wx.cell? ⟨w.heap.size, 4, none⟩ = some (Value.slice tb t.tags.length tcap) ∧ wx.cell? ⟨w.heap.size, 5, none⟩ = some (Value.slice ab t.args.length acap) ∧ wx.cell? ⟨w.heap.size, 6, none⟩ = some (Value.slice fb t.funs.length fcap) ∧ wx.cell? ⟨w.heap.size, 7, none⟩ = some (Value.slice nb t.next.length ncap)) (go_keep)
    (first | (go_at_call 64; refine (tagged_any HR.out _ (HM.out.later (by first | exact ((below_box _ _).alloc (by simp) _).drew | exact (below_box _ _).alloc (by simp) _))).mono ?_; rintro e w1 ⟨rfl, hb1⟩; have hz1 := hb1.size; simp at hz1; have gb := ((BoxAt.new w [.int .i64 6, .int .i64 t.x, .int .i64 t.n, .bool t.ints, .slice tb t.tags.length tcap, .slice ab t.args.length acap, .slice fb t.funs.length fcap, .slice nb t.next.length ncap] 34).later (below_box _ (.cells [.int .i64 0, .int .i64 0, .int .i64 0, .bool false, .slice none 0 0, .slice none 0 0, .slice none 0 0, .slice none 0 0].toArray 34))).drew.later hb1; have gw := (BoxAt.new (w.alloc (.cells [.int .i64 6, .int .i64 t.x, .int .i64 t.n, .bool t.ints, .slice tb t.tags.length tcap, .slice ab t.args.length acap, .slice fb t.funs.length fcap, .slice nb t.next.length ncap].toArray 34)) [.int .i64 0, .int .i64 0, .int .i64 0, .bool false, .slice none 0 0, .slice none 0 0, .slice none 0 0, .slice none 0 0] 34).drew.later hb1; rw [World.size_alloc] at gw; have g0 := gb.2 0 _ rfl; have g1 := gb.2 1 _ rfl; have g2 := gb.2 2 _ rfl; have g3 := gb.2 3 _ rfl; have g4 := gb.2 4 _ rfl; have g5 := gb.2 5 _ rfl; have g6 := gb.2 6 _ rfl; have g7 := gb.2 7 _ rfl; have k0 := gw.2 0 _ rfl; have k1 := gw.2 1 _ rfl; have k2 := gw.2 2 _ rfl; have k3 := gw.2 3 _ rfl; have k4 := gw.2 4 _ rfl; have k5 := gw.2 5 _ rfl; have k6 := gw.2 6 _ rfl; have k7 := gw.2 7 _ rfl; obtain ⟨hc1, hf1⟩ := bcell hb1; have z3 := hf1 (w.heap.size + 1) 3 (by simp); have z4 := hf1 (w.heap.size + 1) 4 (by simp); simp [go_sem] at z3 z4; clear hc1 hf1 gb gw))
  all_goals have hbf := ((((below_box w (.cells #[.int .i64 6, .int .i64 t.x, .int .i64 t.n, .bool t.ints, .slice tb t.tags.length tcap, .slice ab t.args.length acap, .slice fb t.funs.length fcap, .slice nb t.next.length ncap] 34)).alloc (by simp) (.cells #[.int .i64 0, .int .i64 0, .int .i64 0, .bool false, .slice none 0 0, .slice none 0 0, .slice none 0 0, .slice none 0 0] 34)).drew.trans (hb1.mono (by simp <;> omega))).setCell (p := ⟨w.heap.size + 1, 3, none⟩) (by simp) (.bool t.ints)).setCell (p := ⟨w.heap.size + 1, 4, none⟩) (by simp) (.slice tb t.tags.length tcap)
  all_goals have Hbf := Lib.hid hbf
  all_goals clear hbf hb1
  all_goals go_wp2_with fail
  all_goals go_ret
  all_goals exact ⟨congrArg (fun x => Ending.returned (.bool x)) (by rw [formedB_6 K.out, Bool.eq_iff_iff]; simp_all <;> first | omega | (intros; first | omega | (exfalso; omega)) | (constructor <;> intros <;> simp_all <;> omega)), Hbf.out⟩
end Go.Proofs.Ytimljadlfhccpaa
namespace Go.Proofs.Ytimljadlfhccpaa
open Go.RowKit
set_option maxHeartbeats 4000000

set_option maxRecDepth 100000 in
theorem formed_no {m : Mp} {t : Term} {tb tcap ab acap fb fcap nb ncap} (O : Opn m t tb tcap ab acap fb fcap nb ncap) (kn : ¬ t.kind = 1 ∧ ¬ t.kind = 2 ∧ ¬ t.kind = 3 ∧ ¬ t.kind = 5 ∧ ¬ t.kind = 6 ∧ ¬ t.kind = 7 ∧ ¬ t.kind = 8 ∧ ¬ t.kind = 9 ∧ ¬ t.kind = 10) (kb : Nat) (Fb : Option Addr) (nf Fc : Nat) (main : Int) (w : World) (hm : Ag m w) (hkb : kb < w.heap.size)
    (q0 : w.cell? ⟨kb, 0, none⟩ = some (.slice Fb nf Fc)) (q1 : w.cell? ⟨kb, 1, none⟩ = some (.int .i64 main)) (hnf : nf ≤ 4096) :
    Calls Try.prog 36 #[.pointer (some ⟨kb, 0, none⟩), .agg #[.int .i64 t.kind, .int .i64 t.x, .int .i64 t.n, .bool t.ints, .slice tb t.tags.length tcap, .slice ab t.args.length acap, .slice fb t.funs.length fcap, .slice nb t.next.length ncap]] w fun e w' => e = .returned (.bool (formedB nf main t)) ∧ Below w.heap.size w w' := by
  have HM := Lib.hid hm
  have HT := Lib.hid O
  have t2 := O.tags.len
  have a2 := O.args.len
  have f2 := O.fbd
  have n2 := O.nbd
  have K := Lib.hid kn
  clear hm O
  obtain ⟨h1, h2, h3, h5, h6, h7, h8, h9, h10⟩ := kn
  have p1 : (t.kind == 1) = false := by simpa using h1
  have q2 : (t.kind == 2) = false := by simpa using h2
  have q3 : (t.kind == 3) = false := by simpa using h3
  have q5 : (t.kind == 5) = false := by simpa using h5
  have q6 : (t.kind == 6) = false := by simpa using h6
  have q7 : (t.kind == 7) = false := by simpa using h7
  have q8 : (t.kind == 8) = false := by simpa using h8
  have q9 : (t.kind == 9) = false := by simpa using h9
  have q10 : (t.kind == 10) = false := by simpa using h10
  clear h1 h2 h3 h5 h6 h7 h8 h9 h10
  go_enter Try.func36, Try.ntmps36
  go_wp2_with fail
  go_ret
  exact ⟨by rw [formedB_no K.out]; rfl, (below_box _ _).alloc (by simp) _⟩
end Go.Proofs.Ytimljadlfhccpaa
