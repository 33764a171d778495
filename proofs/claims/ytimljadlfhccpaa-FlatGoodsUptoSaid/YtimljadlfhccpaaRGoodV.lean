/- The document's test of a flat program is goodFlat. -/
import Derived.Test.YtimljadlfhccpaaProg
import Derived.Test.YtimljadlfhccpaaRGoodU
import Derived.Test.YtimljadlfhccpaaShapeN
import Derived.Test.YtimljadlfhccpaaGoodF
import Derived.Outline
set_option linter.all false
set_option linter.all false
set_option linter.all false
set_option linter.all false
namespace Go.Proofs.Ytimljadlfhccpaa
open Go.RowKit
set_option maxHeartbeats 4000000

theorem rterm_any {nf : Nat} {main : Int} (hnf : nf ≤ 4096) : ∀ t, SmallT t → RSpec nf main t := by
  refine Term.ind (P := fun t => SmallT t → RSpec nf main t) (fun t _ ihn hs => ?_)
  intro m c hr wb eb hb Fb Fc w E H hm ho hk
  cases hf : formedB nf main t with
  | false =>
    rw [show goodT nf main t E H = none from by rw [goodT_eq, hf]; rfl]
    exact rterm_bad @shape_any hs hnf hf hr hm hk
  | true => exact rterm_good @shape_any hs hnf hf (fun s hs' => ihn s hs' (hs.next.2 s hs')) hr hm ho hk
structure ROff (wb eb hb : Nat) (Fb : Option Addr) (nf Fc : Nat) (main : Int) (w : World) (E H : List Int) (e : Ending) (w' : World) : Prop where
  ret : e = .returned (.tuple #[])
  kept : Kept [wb, eb, hb] w w'
  wk : Wk wb eb hb Fb nf Fc main w' E H false
set_option maxRecDepth 100000 in
theorem rterm_off {m : Mp} {t : Term} {c : List Value} (hr : RTerm m c t) {wb eb hb : Nat} {Fb : Option Addr} {nf Fc : Nat} {main : Int} {w : World} {E H : List Int} (hk : Wk wb eb hb Fb nf Fc main w E H false) :
    Calls Try.prog 24 #[.pointer (some ⟨wb, 0, none⟩), .agg c.toArray] w (ROff wb eb hb Fb nf Fc main w E H) := by
  obtain ⟨tb, tcap, ab', acap, fb, fcap, nb, ncap, rfl⟩ := hr.shape
  have hwb := hk.lt
  have c4 := hk.c4
  have fz := hk.fz
  have HK := Lib.hid hk
  clear hk hr
  go_enter Try.func24, Try.ntmps24
  go_wp2_with fail
  have hL := later_cell (w.alloc (.cells #[.int .i64 t.kind, .int .i64 t.x, .int .i64 t.n, .bool t.ints, .slice tb t.tags.length tcap, .slice ab' t.args.length acap, .slice fb t.funs.length fcap, .slice nb t.next.length ncap] 34))
  refine wp_region_later (by kernel_rfl) (by kernel_rfl) ?_
  repeat (go_big_quiet_step (fail))
  refine wpQuiet_nil ?_
  intro _ hw'
  obtain ⟨⟨w1, hb1⟩, hw''⟩ := hw'
  subst hw''
  have HB := Lib.hid (bgo (below_box w _) hb1)
  have HW := wk_set (HK.out.later HB.out) false
  have d4 := (HK.out.later HB.out).c4
  have dz := (HK.out.later HB.out).fz
  clear hb1
  go_wp2_with fail
  go_end0
  exact ⟨rfl, (Kept.below HB.out).trans HW.2, HW.1⟩
/-- What the document's walker is when it has just been made. -/
theorem Wk.make {w : World} {Fb : Option Addr} {nf Fc : Nat} {main : Int} {t : TypeId} {k mb ab : Nat} (hmb : mb = w.heap.size) (hab : ab = w.heap.size + 1) (hk : k = w.heap.size + 2) :
    Wk k mb ab Fb nf Fc main (((w.alloc (.map #[] 0)).alloc (.map #[] 0)).alloc (.cells #[.slice Fb nf Fc, .int .i64 main, .map (some mb), .map (some ab), .bool true] t)) [] [] true := by
  subst hmb; subst hab; subst hk
  have hb := BoxAt.new ((w.alloc (.map #[] 0)).alloc (.map #[] 0)) [.slice Fb nf Fc, .int .i64 main, .map (some w.heap.size), .map (some (w.heap.size + 1)), .bool true] t
  rw [show ((w.alloc (.map #[] 0)).alloc (.map #[] 0)).heap.size = w.heap.size + 2 by simp] at hb
  refine ⟨hb.2 0 _ rfl, hb.2 1 _ rfl, hb.2 2 _ rfl, hb.2 3 _ rfl, hb.2 4 _ rfl, World.frozen?_alloc_at _ _ _ _ (by simp), by omega, by omega, by omega, by simp, ⟨[], ((IMap.new w).below (below_box _ _)).below (below_box _ _), fun x => rfl⟩, ⟨[], (IMap.new' (w.alloc (.map #[] 0)) _ (by simp)).below (below_box _ _), fun x => rfl⟩⟩
def flatBad (f : Flat) : Bool := decide (f.funs.length = 0) || decide (4096 < f.funs.length) || decide (f.main < 0) || decide ((f.funs.length : Int) ≤ f.main) || decide (65536 < fsize f.funs)
theorem flatBad_yes {f : Flat} (h : flatBad f = true) : goodFlat f = false := by
  simp only [flatBad, Bool.or_eq_true, decide_eq_true_eq] at h
  exact goodFlat_no (by omega)
theorem flatBad_no {f : Flat} (h : flatBad f = false) : f.funs.length ≤ 4096 ∧ fsize f.funs ≤ 65536 ∧ goodFlat f = goodFuns f.funs.length f.main 0 f.funs := by
  simp only [flatBad, Bool.or_eq_false_iff, decide_eq_false_iff_not] at h
  obtain ⟨⟨⟨⟨h1, h2⟩, h3⟩, h4⟩, h5⟩ := h
  exact ⟨by omega, by omega, goodFlat_yes h1 h2 h5 h3 h4⟩
def funBad (main : Int) (j : Nat) (f : Int × List Int × Term) : Bool := decide (¬ f.1 = j) || (decide ((j : Int) = main) && decide (¬ f.2.1.length = 1)) || decide (f.2.1.length = 0) || decide (17 < f.2.1.length)
theorem funBad_yes {nf : Nat} {main : Int} {j : Nat} {f : Int × List Int × Term} (h : funBad main j f = true) : goodFun nf main j f = false := by
  simp only [funBad, Bool.or_eq_true, Bool.and_eq_true, decide_eq_true_eq] at h
  exact goodFun_no (by omega)
theorem funBad_no {nf : Nat} {main : Int} {j : Nat} {f : Int × List Int × Term} (h : funBad main j f = false) : goodFun nf main j f = match bindL f.2.1 [] [] with | none => false | some p => (goodT nf main f.2.2 p.1 p.2).isSome := by
  simp only [funBad, Bool.or_eq_false_iff, Bool.and_eq_false_iff, decide_eq_false_iff_not] at h
  obtain ⟨⟨⟨h1, h2⟩, h3⟩, h4⟩ := h
  exact goodFun_yes (by omega) h3 h4 (fun e => by omega)
theorem fsize_sum {l : List (Int × List Int × Term)} (h : fsize l ≤ 65536) : sumS l 0 ≤ 65536 := by unfold fsize at h; split at h <;> omega
/-- What binding so many of the parameters has come to. -/
def Bnd (ps : List Int) (j : Nat) (E H : List Int) (ok : Bool) : Prop := (ok = true → bindL ps [] [] = bindL (ps.drop j) E H) ∧ (ok = false → bindL ps [] [] = none)
theorem Bnd.step {ps : List Int} {j : Nat} {E H : List Int} {ok : Bool} (h : Bnd ps j E H ok) (hj : j < ps.length) : Bnd ps (j + 1) (ps[j] :: E) (ps[j] :: H) (ok && mayBind E ps[j]) := by
  cases ok with
  | false => exact ⟨fun h => (by cases h), fun _ => h.2 rfl⟩
  | true =>
    have h1 := h.1 rfl
    rw [bindL_step hj] at h1
    refine ⟨fun e => ?_, fun e => ?_⟩
    · rw [Bool.true_and] at e; rw [h1, e]; rfl
    · rw [Bool.true_and] at e; rw [h1, e]; rfl
theorem Bnd.done {ps : List Int} {E H : List Int} {ok : Bool} (h : Bnd ps ps.length E H ok) : bindL ps [] [] = if ok then some (E, H) else none := by
  cases ok with
  | true => rw [h.1 rfl, List.drop_length, bindL, if_pos rfl]
  | false => rw [h.2 rfl, if_neg Bool.false_ne_true]
theorem off_wr {w wr : World} {m : Mp} (hm : Ag m w) (h : w.heap.size ≤ wr.heap.size) {k : Nat} (hk : wr.heap.size ≤ k) : Off m k := fun a v ha e => by
  have := World.block_lt_of_cell? w a (hm a v ha)
  omega
set_option maxRecDepth 100000 in
theorem good25 {m : Mp} {v : Value} {f : Flat} (hr : RFlat m v f) (w : World) (hm : Ag m w) :
    Calls Try.prog 9 #[.agg #[v, .int .i64 f.main]] w fun e w' => e = .returned (.bool (goodFlat f)) ∧ Below w.heap.size w w' := by
  have Hsz := Lib.hid (fun (w' : World) (hb : Below w.heap.size w w') => r25Size hr w' (hm.later hb))
  obtain ⟨fb, fcap, rfl, f1, f2, F3⟩ := hr.1.opn
  have HM := Lib.hid hm
  clear hr hm
  have hmm := @run_makeMap Try.prog
  have HB0 := Lib.hid (below_box w (.cells #[.slice fb f.funs.length fcap, .int .i64 f.main] 24))
  have HX0 := Lib.hid (BoxAt.new w [.slice fb f.funs.length fcap, .int .i64 f.main] 24)
  go_enter Try.func9, Try.ntmps9
  go_upto_region 1 with fail
  go_cut [34] (fun v wx => v = .bool (flatBad f) ∧ Hid (Below w.heap.size w wx) ∧ Hid (BoxAt w.heap.size wx [.slice fb f.funs.length fcap, .int .i64 f.main]))
  case first =>
    by_cases h1 : 0 < f.funs.length
    rotate_left
    · go_wp2_with fail
      go_meet
      exact ⟨congrArg Value.bool (by rw [Bool.eq_iff_iff]; simp only [flatBad, Bool.or_eq_true, decide_eq_true_eq, true_iff, eq_self, Bool.false_eq_true, false_iff]; omega), HB0, HX0⟩
    by_cases h2 : 4096 < f.funs.length
    · go_wp2_with fail
      go_meet
      exact ⟨congrArg Value.bool (by rw [Bool.eq_iff_iff]; simp only [flatBad, Bool.or_eq_true, decide_eq_true_eq, true_iff, eq_self, Bool.false_eq_true, false_iff]; omega), HB0, HX0⟩
    by_cases h3 : f.main < 0
    · go_wp2_with fail
      go_meet
      exact ⟨congrArg Value.bool (by rw [Bool.eq_iff_iff]; simp only [flatBad, Bool.or_eq_true, decide_eq_true_eq, true_iff, eq_self, Bool.false_eq_true, false_iff]; omega), HB0, HX0⟩
    by_cases h4 : (f.funs.length : Int) ≤ f.main
    · go_wp2_with fail
      go_meet
      exact ⟨congrArg Value.bool (by rw [Bool.eq_iff_iff]; simp only [flatBad, Bool.or_eq_true, decide_eq_true_eq, true_iff, eq_self, Bool.false_eq_true, false_iff]; omega), HB0, HX0⟩
    go_wp2_with (go_at_call 11; refine (Hsz.out _ HB0.out).mono ?_; rintro e w1 ⟨rfl, hb1⟩; have H1 := Lib.hid (bgo HB0.out hb1); have X1 := Lib.hid (HX0.out.later hb1); clear hb1)
    go_meet
    exact ⟨congrArg Value.bool (by rw [Bool.eq_iff_iff]; simp only [flatBad, Bool.or_eq_true, decide_eq_true_eq, true_iff, eq_self, Bool.false_eq_true, false_iff]; omega), H1, X1⟩
  case rest =>
  obtain ⟨rfl, HB, HX⟩ := hcut
  cases hfb : flatBad f with
  | true =>
    have HF := Lib.hid (flatBad_yes hfb)
    clear hfb
    go_wp2_with fail
    go_ret
    exact ⟨by rw [HF.out]; rfl, HB.out⟩
  | false =>
  obtain ⟨hnf, hsz, hgf⟩ := flatBad_no hfb
  have HG := Lib.hid hgf
  have HT := Lib.hid (fun j (hj : j < f.funs.length) => rterm_any (main := f.main) hnf _ (smallFs _ 0 (by omega) (fsize_sum hsz) _ (List.getElem_mem hj)))
  clear hfb hsz hgf
  go_wp2_with fail
  go_loopg [3] (f.funs.length) (fun g i wr => ∃ j : Nat, j + g = f.funs.length ∧ i = .int .i64 j ∧ Hid (goodFuns f.funs.length f.main 0 f.funs = goodFuns f.funs.length f.main j (f.funs.drop j)) ∧ Hid (Below w.heap.size w wr) ∧ Hid (BoxAt w.heap.size wr [.slice fb f.funs.length fcap, .int .i64 f.main]))
  case atStart => exact ⟨0, by omega, rfl, Lib.hid rfl, HB, HX⟩
  case round =>
  clear HB HX HB0 HX0
  obtain ⟨j, hj, rfl, hs, hbel, hbx⟩ := hrel
  obtain ⟨wo, hwo⟩ : ∃ wo : World, wo = wr := ⟨_, rfl⟩
  subst hwo
  have g0 := hbx.out.2 0 _ rfl
  have g1 := hbx.out.2 1 _ rfl
  have z1 := hbx.out.1
  by_cases hlt : j < f.funs.length
  rotate_left
  · have HE : Hid (goodFlat f = true) := Lib.hid (by rw [HG.out, hs.out, List.drop_eq_nil_of_le (by omega), goodFuns])
    go_wp2_with fail
    go_ret
    exact ⟨by rw [HE.out]; rfl, hbel.out⟩
  obtain ⟨b, o, pb, pc, tb, tc, ab, ac, fb', fc, nb, nc, rfl, ik, hp, hr, hcell⟩ := F3.out j hlt
  have hm := HM.out.later hbel.out
  obtain ⟨x0, x1, e0, e1, e2, e3, e4, e5, e6, e7⟩ := hcell _ hm
  obtain ⟨y1, y2, y3, y4, y5, y6, y7⟩ := flat7 e1 e2 e3 e4 e5 e6 e7
  clear e1 e2 e3 e4 e5 e6 e7
  have HMr := Lib.hid hm
  have HP := Lib.hid hp
  have HR := Lib.hid hr
  have p2 := hp.len
  have st := Lib.hid (goodFuns_step (nf := f.funs.length) (main := f.main) hlt)
  clear hm hp hr hcell ik
  have HB1 := Lib.hid (below_box wo (.cells #[.int .i64 f.funs[j].1, .slice pb f.funs[j].2.1.length pc, .int .i64 f.funs[j].2.2.kind, .int .i64 f.funs[j].2.2.x, .int .i64 f.funs[j].2.2.n, .bool f.funs[j].2.2.ints, .slice tb f.funs[j].2.2.tags.length tc, .slice ab f.funs[j].2.2.args.length ac, .slice fb' f.funs[j].2.2.funs.length fc, .slice nb f.funs[j].2.2.next.length nc] 42))
  have HX1 := Lib.hid (BoxAt.new wo [.int .i64 f.funs[j].1, .slice pb f.funs[j].2.1.length pc, .int .i64 f.funs[j].2.2.kind, .int .i64 f.funs[j].2.2.x, .int .i64 f.funs[j].2.2.n, .bool f.funs[j].2.2.ints, .slice tb f.funs[j].2.2.tags.length tc, .slice ab f.funs[j].2.2.args.length ac, .slice fb' f.funs[j].2.2.funs.length fc, .slice nb f.funs[j].2.2.next.length nc] 42)
  go_upto_region 7 with fail
  go_cut [74] (fun v wx => v = .bool (funBad f.main j f.funs[j]) ∧ Hid (Below wo.heap.size wo wx) ∧ Hid (BoxAt wo.heap.size wx [.int .i64 f.funs[j].1, .slice pb f.funs[j].2.1.length pc, .int .i64 f.funs[j].2.2.kind, .int .i64 f.funs[j].2.2.x, .int .i64 f.funs[j].2.2.n, .bool f.funs[j].2.2.ints, .slice tb f.funs[j].2.2.tags.length tc, .slice ab f.funs[j].2.2.args.length ac, .slice fb' f.funs[j].2.2.funs.length fc, .slice nb f.funs[j].2.2.next.length nc]))
  case first =>
    by_cases n1 : f.funs[j].1 = j
    rotate_left
    · have t1 : (f.funs[j].1 != (j : Int)) = true := by rw [bne_iff_ne]; exact n1
      have N1 := Lib.hid n1
      clear n1
      go_wp2_with fail
      go_meet
      exact ⟨by simp [funBad, N1.out], HB1, HX1⟩
    have t1 : (f.funs[j].1 != (j : Int)) = false := by rw [bne_eq_false_iff_eq]; exact n1
    have N1 := Lib.hid n1
    clear n1
    have h4 : (((j : Int) == f.main) = true ∧ ((f.funs[j].2.1.length : Int) != 1) = true) ∨ (((j : Int) == f.main) = true ∧ ((f.funs[j].2.1.length : Int) != 1) = false) ∨ ((j : Int) == f.main) = false := by
      cases ((j : Int) == f.main) <;> cases ((f.funs[j].2.1.length : Int) != 1) <;> simp
    rcases h4 with ⟨t4, t5⟩ | ⟨t4, t5⟩ | t4
    · have N4 : Hid ((j : Int) = f.main ∧ ¬ f.funs[j].2.1.length = 1) := Lib.hid ⟨by simpa using t4, by have := bne_iff_ne.1 t5; omega⟩
      go_wp2_with fail
      go_meet
      exact ⟨by simp [funBad, N1.out, N4.out.1, N4.out.2], HB1, HX1⟩
    all_goals
      have N4 : Hid ((decide ((j : Int) = f.main) && decide (¬ f.funs[j].2.1.length = 1)) = false) := Lib.hid (by first | (have h := bne_eq_false_iff_eq.1 t5; have h' : f.funs[j].2.1.length = 1 := (by omega); simp [h']; done) | (have h := beq_eq_false_iff_ne.1 t4; simp [h]))
      by_cases n2 : 0 < f.funs[j].2.1.length
      rotate_left
      · go_wp2_with fail
        go_meet
        exact ⟨by unfold funBad; rw [N4.out, decide_eq_true (by omega : f.funs[j].2.1.length = 0)]; simp, HB1, HX1⟩
      by_cases n3 : 17 < f.funs[j].2.1.length
      · go_wp2_with fail
        go_meet
        exact ⟨by unfold funBad; rw [decide_eq_true n3]; simp; omega, HB1, HX1⟩
      go_wp2_with fail
      go_meet
      exact ⟨by unfold funBad; rw [N4.out, decide_eq_false (by omega : ¬ f.funs[j].2.1.length = 0), decide_eq_false n3]; simp [N1.out]; omega, HB1, HX1⟩
  case rest =>
  obtain ⟨rfl, HB2, HX2⟩ := hcut
  obtain ⟨wk0, hwk0⟩ : ∃ x : World, x = wc := ⟨_, rfl⟩
  subst hwk0
  clear HB1 HX1 x0 x1 e0 y1 y2 y3 y4 y5 y6 y7
  cases hfb : funBad f.main j f.funs[j] with
  | true =>
    have HE : Hid (goodFlat f = false) := Lib.hid (by rw [HG.out, hs.out, st.out, funBad_yes hfb]; rfl)
    clear hfb
    go_wp2_with fail
    go_ret
    exact ⟨by rw [HE.out]; rfl, bgo hbel.out HB2.out⟩
  | false =>
  have HY := Lib.hid (funBad_no (nf := f.funs.length) hfb)
  clear hfb
  have g0' := (HB2.out.cell (p := ⟨w.heap.size, 0, none⟩) z1).trans g0
  have g1' := (HB2.out.cell (p := ⟨w.heap.size, 1, none⟩) z1).trans g1
  have zc := HX2.out.1
  have zr := HB2.out.size
  have HW0 := Lib.hid (Wk.make (w := wk0) (Fb := some ⟨b, o, none⟩) (nf := f.funs.length) (Fc := fcap) (main := f.main) (t := 59) rfl rfl rfl)
  have HB3 := Lib.hid (bgo HB2.out (bgo (bgo (below_box wk0 (.map #[] 0)) (below_box _ (.map #[] 0))) (below_box _ (.cells #[.slice (some ⟨b, o, none⟩) f.funs.length fcap, .int .i64 f.main, .map (some wk0.heap.size), .map (some (wk0.heap.size + 1)), .bool true] 59))))
  have HX3 := Lib.hid (((HX2.out.later (below_box wk0 (.map #[] 0))).later (below_box _ (.map #[] 0))).later (below_box _ (.cells #[.slice (some ⟨b, o, none⟩) f.funs.length fcap, .int .i64 f.main, .map (some wk0.heap.size), .map (some (wk0.heap.size + 1)), .bool true] 59)))
  go_upto_block 2 with fail
  go_cut [] (fun wx => ∃ E H ok, Hid (Wk (wk0.heap.size + 1 + 1) wk0.heap.size (wk0.heap.size + 1) (some ⟨b, o, none⟩) f.funs.length fcap f.main wx E H ok) ∧ Hid (Below wo.heap.size wo wx) ∧ Hid (BoxAt wo.heap.size wx [.int .i64 f.funs[j].1, .slice pb f.funs[j].2.1.length pc, .int .i64 f.funs[j].2.2.kind, .int .i64 f.funs[j].2.2.x, .int .i64 f.funs[j].2.2.n, .bool f.funs[j].2.2.ints, .slice tb f.funs[j].2.2.tags.length tc, .slice ab f.funs[j].2.2.args.length ac, .slice fb' f.funs[j].2.2.funs.length fc, .slice nb f.funs[j].2.2.next.length nc]) ∧ Hid (Bnd f.funs[j].2.1 f.funs[j].2.1.length E H ok))
  case first =>
    go_wp2_with fail
    go_loopg [6] (f.funs[j].2.1.length) (fun g i wq => ∃ (k : Nat) (E H : List Int) (ok : Bool), k + g = f.funs[j].2.1.length ∧ i = .int .i64 k ∧ Hid (Wk (wk0.heap.size + 1 + 1) wk0.heap.size (wk0.heap.size + 1) (some ⟨b, o, none⟩) f.funs.length fcap f.main wq E H ok) ∧ Hid (Below wo.heap.size wo wq) ∧ Hid (BoxAt wo.heap.size wq [.int .i64 f.funs[j].1, .slice pb f.funs[j].2.1.length pc, .int .i64 f.funs[j].2.2.kind, .int .i64 f.funs[j].2.2.x, .int .i64 f.funs[j].2.2.n, .bool f.funs[j].2.2.ints, .slice tb f.funs[j].2.2.tags.length tc, .slice ab f.funs[j].2.2.args.length ac, .slice fb' f.funs[j].2.2.funs.length fc, .slice nb f.funs[j].2.2.next.length nc]) ∧ Hid (Bnd f.funs[j].2.1 k E H ok))
    case atStart => exact ⟨0, [], [], true, by omega, rfl, HW0, HB3, HX3, Lib.hid ⟨fun _ => rfl, fun h => (by cases h)⟩⟩
    case round =>
      clear HW0 HB3 HX3
      obtain ⟨k, E, H, ok, hk, rfl, HW, HB, HX, HN⟩ := hrel
      have d1 := HX.out.2 1 _ rfl
      have zx := HX.out.1
      by_cases hk' : k < f.funs[j].2.1.length
      · obtain ⟨base, cap, hv, _, _, hI⟩ := HP.out.open (HM.out.later (bgo hbel.out HB.out))
        injection hv with e1 e2 e3
        subst e1
        subst e3
        obtain ⟨b1, o1, rfl, hcl⟩ := hI.out k hk'
        have y1 := hcl k hk'
        clear hcl hI
        go_wp2_with (go_at_call 23; refine (rbind HW.out _).mono ?_; rintro e w3 ⟨rfl, hk3, hw3⟩)
        go_roundg (f.funs[j].2.1.length - (k + 1))
        case measure => omega
        case rel => exact ⟨k + 1, _, _, _, by omega, by go_num, Lib.hid hw3, Lib.hid (below_kept HB.out hk3 (by simp; omega)), Lib.hid (HX.out.kept hk3 (by simp; omega)), Lib.hid (HN.out.step hk')⟩
      · have hke : k = f.funs[j].2.1.length := by omega
        subst hke
        go_wp2_with fail
        go_meet
        exact ⟨E, H, ok, HW, HB, HX, HN⟩
  case rest =>
  obtain ⟨E, H, ok, HW, HB4, HX4, HN⟩ := hcut
  have HBL := Lib.hid HN.out.done
  clear HW0 HB3 HX3 HN
  have D2 := HX4.out.2 2 _ rfl
  have D3 := HX4.out.2 3 _ rfl
  have D4 := HX4.out.2 4 _ rfl
  have D5 := HX4.out.2 5 _ rfl
  have D6 := HX4.out.2 6 _ rfl
  have D7 := HX4.out.2 7 _ rfl
  have D8 := HX4.out.2 8 _ rfl
  have D9 := HX4.out.2 9 _ rfl
  have lw := HW.out.lt
  go_upto_region 14 with fail
  go_cut [] (fun wx => ∃ E2 H2 ok2, Hid (Wk (wk0.heap.size + 1 + 1) wk0.heap.size (wk0.heap.size + 1) (some ⟨b, o, none⟩) f.funs.length fcap f.main wx E2 H2 ok2) ∧ Hid (Below wo.heap.size wo wx) ∧ Hid (goodFun f.funs.length f.main j f.funs[j] = ok2))
  case first =>
    cases ok with
    | false =>
      go_wp2_with (go_at_call 24; refine (rterm_off HR.out HW.out).mono ?_; rintro e w3 ⟨rfl, hk3, hw3⟩)
      go_meet
      exact ⟨E, H, false, Lib.hid hw3, Lib.hid (below_kept HB4.out hk3 (by simp; omega)), Lib.hid (by rw [HY.out, HBL.out]; rfl)⟩
    | true =>
      have HC := Lib.hid (HT.out j hlt m _ HR.out _ _ _ _ _ _ E H (HMr.out.later HB4.out) (off_wr HM.out (Nat.le_trans hbel.out.size zr) (by omega)) HW.out)
      go_wp2_with (go_at_call 24; refine HC.out.mono ?_; clear HC; rintro e w3 ⟨rfl, hk3, hs3, hn3⟩)
      go_meet
      cases hg : goodT f.funs.length f.main f.funs[j].2.2 E H with
      | none =>
        obtain ⟨E2, H2, hw3⟩ := hn3 hg
        exact ⟨E2, H2, false, Lib.hid hw3, Lib.hid (below_kept HB4.out hk3 (by simp; omega)), Lib.hid (by rw [HY.out, HBL.out, if_pos trivial]; simp only [hg]; rfl)⟩
      | some E2 => exact ⟨E2, H, true, Lib.hid (hs3 _ hg), Lib.hid (below_kept HB4.out hk3 (by simp; omega)), Lib.hid (by rw [HY.out, HBL.out, if_pos trivial]; simp only [hg]; rfl)⟩
  case rest =>
  obtain ⟨E2, H2, ok2, HW5, HB5, hgo⟩ := hcut
  clear D2 D3 D4 D5 D6 D7 D8 D9 HW HB4 HX4
  have c4 := HW5.out.c4
  have l5 := HW5.out.lt
  cases ok2 with
  | false =>
    have HE : Hid (goodFlat f = false) := Lib.hid (by rw [HG.out, hs.out, st.out, hgo.out]; rfl)
    go_wp2_with fail
    go_ret
    exact ⟨by rw [HE.out]; rfl, bgo hbel.out HB5.out⟩
  | true =>
    go_wp2_with fail
    go_roundg (f.funs.length - (j + 1))
    case measure => omega
    case rel => exact ⟨j + 1, by omega, by go_num, Lib.hid (by rw [hs.out, st.out, hgo.out, Bool.true_and]), Lib.hid (bgo hbel.out HB5.out), Lib.hid (hbx.out.later HB5.out)⟩
end Go.Proofs.Ytimljadlfhccpaa
