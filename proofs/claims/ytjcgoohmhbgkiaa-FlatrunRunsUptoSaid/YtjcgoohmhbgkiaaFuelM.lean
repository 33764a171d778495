/- More fuel: the law's main road. -/
import Derived.Test.YtjcgoohmhbgkiaaProg
import Derived.Test.YtjcgoohmhbgkiaaFuelW
set_option linter.all false
set_option linter.all false
namespace Go.Proofs.Ytjcgoohmhbgkiaa
open Go.RowKit
set_option maxHeartbeats 2000000

/-- What the fourth region's operations tell. -/
def fuPost (w : World) (f : Flat) (vf pl : Value) (a b : Int) (A B : Out) : Nat → Value → World → Prop
  | 0, v, _ => v = .agg #[vf, .int .i64 f.main]
  | 1, v, w' => ∃ vc, v = .agg #[vc, .int .i64 f.main] ∧ RFlat (newM w w') vc f
  | 2, v, _ => v = pl
  | 3, v, _ => v = .int .i64 b
  | 4, v, _ => v = .int .i64 B.made
  | 5, v, _ => v = .agg #[vf, .int .i64 f.main]
  | 6, v, w' => ∃ vc, v = .agg #[vc, .int .i64 f.main] ∧ RFlat (newM w w') vc f
  | 7, v, _ => v = pl
  | 8, v, _ => v = .int .i64 a
  | 9, v, _ => v = .int .i64 A.made
  | 10, v, _ => v = .bool false
  | _, _, _ => True
theorem newM_later {w w1 w' : World} (hb : Below w1.heap.size w1 w') : ∀ a v, newM w w1 a = some v → newM w w' a = some v := by
  intro a v ha
  unfold newM at ha
  split at ha
  · cases ha
  · exact newM_of ((hb.cell (World.block_lt_of_cell? w1 a ha)).trans ha) (by omega)
theorem fuPost_stable {w : World} {f : Flat} {vf pl : Value} {a b : Int} {A B : Out} : ∀ i v w1 w', fuPost w f vf pl a b A B i v w1 → Below w1.heap.size w1 w' → fuPost w f vf pl a b A B i v w' := by
  intro i v w1 w' h hb
  match i, h with
  | 0, h => exact h
  | 1, ⟨vc, h1, h2⟩ => exact ⟨vc, h1, h2.mono (newM_later hb)⟩
  | 2, h => exact h
  | 3, h => exact h
  | 4, h => exact h
  | 5, h => exact h
  | 6, ⟨vc, h1, h2⟩ => exact ⟨vc, h1, h2.mono (newM_later hb)⟩
  | 7, h => exact h
  | 8, h => exact h
  | 9, h => exact h
  | 10, h => exact h
  | n + 11, h => trivial
set_option maxRecDepth 100000 in
theorem fuel_main {m : Mp} {v pl : Value} {f : Flat} {l : List Int} {a b : Int} (hr : RFlat m v f) (hs : FewF 2097152 f) (hl : RInts m pl l) (w : World) (hm : Ag m w) (h1 : ¬ 300 < l.length) (h2 : ¬ a < 0) (h3 : ¬ b < a) (h4 : ¬ 10000 < b) :
    Calls Try.prog 4 #[.agg #[v, .int .i64 f.main], pl, .agg #[.int .i64 a, .int .i64 b]] w (YesPost w) := by
  have HL := Lib.hid (fun (wx : World) (hb : Below w.heap.size w wx) => large25 hr wx (hm.later hb))
  have hc1 := Lib.hid (fun (wx : World) (hb : Below w.heap.size w wx) => copyF hr hs wx (hm.later hb))
  have hc2 := hc1
  have hc3 := hc1
  have law := fuel_plain f l a b (by omega) (by omega) (by omega)
  obtain ⟨A, hA⟩ : ∃ A, runF f l a = A := ⟨_, rfl⟩
  obtain ⟨B, hB⟩ : ∃ B, runF f l b = B := ⟨_, rfl⟩
  rw [hA, hB] at law
  have HA := Lib.hid hA
  have HB := Lib.hid hB
  have HLAW := Lib.hid law
  have HI := Lib.hid hl
  have hi1' := Lib.hid hl
  have HM := Lib.hid hm
  obtain ⟨i1, hi1, hz1, hs1, hy1⟩ := info_parts infoI
  obtain ⟨fb, fcap, rfl, _⟩ := hr.1.opn
  obtain ⟨ao, cap, rfl, hcap, hln, _⟩ := hl.open hm
  have hbx := BoxAt.new w [.slice fb f.funs.length fcap, .int .i64 f.main] 24
  have h0 : FuAt w (.slice fb f.funs.length fcap) (.int .i64 f.main) (w.alloc (.cells #[.slice fb f.funs.length fcap, .int .i64 f.main] 24)) := ⟨below_box _ _, hbx.2 0 _ rfl, hbx.2 1 _ rfl⟩
  have H0 := Lib.hid (h0.next (below_box _ (.cells #[.int .i64 a, .int .i64 b] 42)))
  clear hr hl hm hs hbx h0 law hA hB
  go_enter Try.func4, Try.ntmps4
  go_wp2_with fail
  go_quiet (fail)
  go_wp2_with (first | (go_at_call 6; refine (HL.out _ (below_drewN H0.out.bel _)).mono ?_; rintro e w1 ⟨r, rfl, hb1⟩; have H1 := Lib.hid (H0.out.next (bgo (below_drewN (Below.refl _ _) _) hb1)); have d0 := H1.out.c0; have d1 := H1.out.c1; cases r) |
    (go_at_call 7; refine (wakes _).mono ?_; rintro e w2 ⟨rfl, hb2⟩) |
    (go_at_call 8; refine (hc1.out _ H1.out.bel).mono ?_; clear hc1; rintro e w2 ⟨v2, rfl, hb2, hf2⟩; obtain ⟨fb2, fc2, rfl, _⟩ := hf2.1.opn; have H2 := Lib.hid (H1.out.next hb2); have HF2 := Lib.hid (hf2.mono (newM_mono H1.out.bel.size)); clear hf2; have HB2 := Lib.hid hb2; clear hb2) |
    (at_builtin; refine wpList_append0 rfl (.tmp 41) (.tmp 42) rfl Try.underlying25 hi1 hz1 hs1 hy1 rfl (by decide) (g := w2.heap.size) (base := w2.heap.size) rfl (by exact heap_alloc_new _ _) (Nat.le_refl _) rfl (by simp) (src_ints HI.out (HM.out.later (bgo H2.out.bel (below_box _ _)))) (intsCells_one _) (by unfold maxLen; omega) (by omega) (by simp) ?_; intro v3 w3 ho3 hb3; have H3 := Lib.hid ((H2.out.next (below_box _ _)).next hb3); have HI3 := Lib.hid (input_new HI.out hln H2.out.bel.size ho3); have HF3 := Lib.hid (HF2.out.mono (newM_later (bgo (below_box _ _) hb3))); obtain ⟨ao3, cap3, rfl⟩ := ownsRow_slice ho3; clear ho3 hb3) |
    (go_at_call 9; refine (flRunA HF3.out HA.out w3 (ag_new w w3) HI3.out).mono ?_; rintro e w4 ⟨vw, vs, rfl, hb4, hw4, hs4⟩; obtain ⟨wa, wn, wc, rfl⟩ := rints_slice hw4; obtain ⟨sa, sn, sc, rfl⟩ := rints_slice hs4; have H4 := Lib.hid (H3.out.next hb4); have HW4 := Lib.hid (hw4.mono (newM_mono H3.out.bel.size)); have HS4 := Lib.hid (hs4.mono (newM_mono H3.out.bel.size)); clear hw4 hs4 hb4 HI3; have d40 := H4.out.c0; have d41 := H4.out.c1; have l4 := H4.out.lt; have n4 : ¬ w.heap.size = w4.heap.size := (by omega)))
  rotate_left
  · go_ret
    exact ⟨rfl, bgo H1.out.bel hb2⟩
  have H5 := Lib.hid (H4.out.next (below_box _ (.cells #[.int .i64 A.e, .slice wa wn wc, .slice sa sn sc] 30)))
  have X5 := Lib.hid (BoxAt.new' w4 [.int .i64 A.e, .slice wa wn wc, .slice sa sn sc] 30 w4.heap.size rfl)
  go_wp2_with (first |
    (go_at_call 8; refine (hc2.out _ H5.out.bel).mono ?_; clear hc2; rintro e w6 ⟨v6, rfl, hb6, hf6⟩; obtain ⟨fb6, fc6, rfl, _⟩ := hf6.1.opn; have H6 := Lib.hid (H5.out.next hb6); have X6 := Lib.hid (X5.out.later hb6); have HF6 := Lib.hid (hf6.mono (newM_mono H5.out.bel.size)); have HW6 := Lib.hid (HW4.out.mono (newM_later (bgo (below_box _ (.cells #[.int .i64 A.e, .slice wa wn wc, .slice sa sn sc] 30)) hb6))); have HS6 := Lib.hid (HS4.out.mono (newM_later (bgo (below_box _ (.cells #[.int .i64 A.e, .slice wa wn wc, .slice sa sn sc] 30)) hb6))); clear hf6 hb6) |
    (at_builtin; refine wpList_append0 rfl (.tmp 51) (.tmp 52) rfl Try.underlying25 hi1 hz1 hs1 hy1 rfl (by decide) (g := w6.heap.size) (base := w6.heap.size) rfl (by exact heap_alloc_new _ _) (Nat.le_refl _) rfl (by simp) (src_ints HI.out (HM.out.later (bgo H6.out.bel (below_box _ _)))) (intsCells_one _) (by unfold maxLen; omega) (by omega) (by simp) ?_; intro v7 w7 ho7 hb7; have H7 := Lib.hid ((H6.out.next (below_box _ _)).next hb7); have X7 := Lib.hid ((X6.out.later (below_box _ _)).later hb7); have HI7 := Lib.hid (input_new HI.out hln H6.out.bel.size ho7); have HF7 := Lib.hid (HF6.out.mono (newM_later (bgo (below_box _ _) hb7))); have HW7 := Lib.hid (HW6.out.mono (newM_later (bgo (below_box _ _) hb7))); have HS7 := Lib.hid (HS6.out.mono (newM_later (bgo (below_box _ _) hb7))); obtain ⟨ao7, cap7, rfl⟩ := ownsRow_slice ho7; clear ho7 hb7) |
    (go_at_call 9; refine (flRunA HF7.out HB.out w7 (ag_new w w7) HI7.out).mono ?_; rintro e w8 ⟨vw, vs, rfl, hb8, hw8, hs8⟩; obtain ⟨wb, wm, wd, rfl⟩ := rints_slice hw8; obtain ⟨sb, sm, sd, rfl⟩ := rints_slice hs8; have H8 := Lib.hid (H7.out.next hb8); have X8 := Lib.hid (X7.out.later hb8); have HW8 := Lib.hid (HW7.out.mono (newM_later hb8)); have HS8 := Lib.hid (HS7.out.mono (newM_later hb8)); have KW8 := Lib.hid (hw8.mono (newM_mono H7.out.bel.size)); have KS8 := Lib.hid (hs8.mono (newM_mono H7.out.bel.size)); clear hw8 hs8 hb8 HI7))
  have H9 := Lib.hid (H8.out.next (below_box _ (.cells #[.int .i64 B.e, .slice wb wm wd, .slice sb sm sd] 30)))
  have X9 := Lib.hid (X8.out.later (below_box _ (.cells #[.int .i64 B.e, .slice wb wm wd, .slice sb sm sd] 30)))
  have Y9 := Lib.hid (BoxAt.new' w8 [.int .i64 B.e, .slice wb wm wd, .slice sb sm sd] 30 w8.heap.size rfl)
  have b9 := Lib.hid (below_box w8 (.cells #[.int .i64 B.e, .slice wb wm wd, .slice sb sm sd] 30))
  refine wp_region_rel [] (fun a b => Below a.heap.size a b) (fuPost w f (.slice fb f.funs.length fcap) (.slice ao l.length cap) a b A B) (by kernel_rfl) (by kernel_rfl) (fun _ _ _ h k => bgo h k) (Below.refl _ _) fuPost_stable (by kernel_rfl) ?_ ?_
  · refine ⟨?_, ?_, ?_, ?_, ?_, ?_, ?_, ?_, ?_, ?_, ?_, trivial⟩
    all_goals (first | (rw [if_pos (by decide)]; trivial) | rw [if_neg (by decide)])
    · intro ac wx hR hold hpre K hK
      have h3 := hold 3 (by decide)
      simp [Act.eval] at h3
      have hx := H9.out.next (bgo (Below.refl _ _).drew hR)
      have e0 := hx.c0
      have e1 := hx.c1
      clear hold hpre
      go_simp
      exact hK _ _ (Below.refl _ _) rfl
    · intro ac wx hR hold hpre K hK
      have h3 := hpre 0 _ 58 rfl rfl (by kernel_rfl)
      simp [Act.eval, fuPost] at h3
      have hx := H9.out.next (bgo (Below.refl _ _).drew hR)
      clear hold hpre
      go_simp
      refine (hc3.out wx hx.bel).mono ?_
      rintro e wy ⟨vc, rfl, hb, hf⟩
      exact hK _ _ hb ⟨vc, rfl, hf.mono (newM_mono hx.bel.size)⟩
    · intro ac wx hR hold hpre K hK
      have h3 := hold 1 (by decide)
      simp [Act.eval] at h3
      clear hold hpre
      go_simp
      exact hK _ _ (Below.refl _ _) rfl
    · intro ac wx hR hold hpre K hK
      have h3 := hold 8 (by decide)
      simp [Act.eval] at h3
      clear hold hpre
      go_simp
      exact hK _ _ (Below.refl _ _) rfl
    · intro ac wx hR hold hpre K hK
      obtain ⟨vc, h59, hf⟩ := hpre 1 _ 59 rfl rfl (by kernel_rfl)
      have h60 := hpre 2 _ 60 rfl rfl (by kernel_rfl)
      have h61 := hpre 3 _ 61 rfl rfl (by kernel_rfl)
      simp [Act.eval, fuPost] at h59 h60 h61
      have hx := H9.out.next (bgo (Below.refl _ _).drew hR)
      clear hold hpre
      go_simp
      refine (flMadeA (m := fun a => wx.cell? a) (hf.mono (fun _ _ h => newM_cell h)) HB.out wx (fun _ _ h => h) (HI.out.mono (HM.out.later hx.bel))).mono ?_
      rintro e wy ⟨rfl, hb⟩
      exact hK _ _ hb rfl
    · intro ac wx hR hold hpre K hK
      have h3 := hold 3 (by decide)
      simp [Act.eval] at h3
      have hx := H9.out.next (bgo (Below.refl _ _).drew hR)
      have e0 := hx.c0
      have e1 := hx.c1
      clear hold hpre
      go_simp
      exact hK _ _ (Below.refl _ _) rfl
    · intro ac wx hR hold hpre K hK
      have h3 := hpre 5 _ 63 rfl rfl (by kernel_rfl)
      simp [Act.eval, fuPost] at h3
      have hx := H9.out.next (bgo (Below.refl _ _).drew hR)
      clear hold hpre
      go_simp
      refine (hc3.out wx hx.bel).mono ?_
      rintro e wy ⟨vc, rfl, hb, hf⟩
      exact hK _ _ hb ⟨vc, rfl, hf.mono (newM_mono hx.bel.size)⟩
    · intro ac wx hR hold hpre K hK
      have h3 := hold 1 (by decide)
      simp [Act.eval] at h3
      clear hold hpre
      go_simp
      exact hK _ _ (Below.refl _ _) rfl
    · intro ac wx hR hold hpre K hK
      have h3 := hold 7 (by decide)
      simp [Act.eval] at h3
      clear hold hpre
      go_simp
      exact hK _ _ (Below.refl _ _) rfl
    · intro ac wx hR hold hpre K hK
      obtain ⟨vc, h59, hf⟩ := hpre 6 _ 64 rfl rfl (by kernel_rfl)
      have h60 := hpre 7 _ 65 rfl rfl (by kernel_rfl)
      have h61 := hpre 8 _ 66 rfl rfl (by kernel_rfl)
      simp [Act.eval, fuPost] at h59 h60 h61
      have hx := H9.out.next (bgo (Below.refl _ _).drew hR)
      clear hold hpre
      go_simp
      refine (flMadeA (m := fun a => wx.cell? a) (hf.mono (fun _ _ h => newM_cell h)) HA.out wx (fun _ _ h => h) (HI.out.mono (HM.out.later hx.bel))).mono ?_
      rintro e wy ⟨rfl, hb⟩
      exact hK _ _ hb rfl
    · intro ac wx hR hold hpre K hK
      have h62 := hpre 4 _ 62 rfl rfl (by kernel_rfl)
      have h67 := hpre 9 _ 67 rfl rfl (by kernel_rfl)
      simp [Act.eval, fuPost] at h62 h67
      have hlt : ¬ B.made < A.made := by have := HLAW.out.made; omega
      clear hold hpre
      go_simp
      exact hK _ _ (Below.refl _ _) rfl
  · intro vals wx hR hv
    have e10 : vals 10 = .bool false := hv 10 _ 68 rfl rfl (by kernel_rfl)
    have hx := H9.out.next (bgo (Below.refl _ _).drew hR)
    simp only [fillA, List.contains_cons, List.contains_nil, Nat.reduceAdd, Nat.reduceBEq, Bool.or_false, Bool.or_true, Bool.false_eq_true, if_true, if_false, Act.put, List.setIfInBounds_toArray, List.set_cons_zero, List.set_cons_succ, e10]
    simp only [List.filterMap_cons, List.filterMap_nil, List.getElem?_toArray, List.getElem?_cons_succ, List.getElem?_cons_zero]
    clear hv
    generalize vals 0 = u0
    generalize vals 1 = u1
    generalize vals 2 = u2
    generalize vals 3 = u3
    generalize vals 4 = u4
    generalize vals 5 = u5
    generalize vals 6 = u6
    generalize vals 7 = u7
    generalize vals 8 = u8
    generalize vals 9 = u9
    have hbx := bgo (bgo b9.out (Below.refl _ _).drew) hR
    have X := X9.out.later (bgo (Below.refl _ _).drew hR)
    have Y := Y9.out.later (bgo (Below.refl _ _).drew hR)
    have x0 := X.2 0 _ rfl
    have x1 := X.2 1 _ rfl
    have x2 := X.2 2 _ rfl
    have y0 := Y.2 0 _ rfl
    have y1 := Y.2 1 _ rfl
    have y2 := Y.2 2 _ rfl
    have rw1 := HW8.out.mono (newM_later hbx)
    have rs1 := HS8.out.mono (newM_later hbx)
    have rw2 := KW8.out.mono (newM_later hbx)
    have rs2 := KS8.out.mono (newM_later hbx)
    have HX := Lib.hid hx
    by_cases e1 : A.err = 0
    · have t0 : (A.err != 0) = false := by rw [bne_eq_false_iff_eq]; exact e1
      by_cases e2 : A.e = 3
      · have t3 : (A.e != 3) = false := by rw [bne_eq_false_iff_eq]; exact e2
        have hon := HLAW.out.on e1 e2
        by_cases e3 : B.err = 250
        · have t4 : (B.err == 250) = true := by rw [beq_iff_eq]; exact e3
          clear e1 e2 e3 hon rw1 rs1 rw2 rs2 X Y hx hR
          go_wp2_with (go_at_call 7; refine (wakes _).mono ?_; rintro e wz ⟨rfl, hbz⟩)
          go_ret
          exact ⟨rfl, bgo HX.out.bel hbz⟩
        · have t4 : (B.err == 250) = false := by rw [beq_eq_false_iff_ne]; exact e3
          have hq : A.writes = B.writes.take A.writes.length := hon.resolve_left e3
          have HBg := kBegins rw2 rw1 wx (ag_new w wx)
          rw [decide_eq_true hq] at HBg
          have HBg := Lib.hid HBg
          clear e1 e2 e3 hon hq rw1 rs1 rw2 rs2 X Y hx hR
          go_wp2_with (first | (go_at_call 16; refine HBg.out.mono ?_; rintro e wy ⟨rfl, q, rfl⟩) | (go_at_call 7; refine (wakes _).mono ?_; rintro e wz ⟨rfl, hbz⟩))
          go_ret
          exact ⟨rfl, bgo (below_drewN HX.out.bel _) hbz⟩
      · have t3 : (A.e != 3) = true := by rw [bne_iff_ne]; exact e2
        obtain ⟨s1, s2, s3, s4⟩ := HLAW.out.same e1 e2
        have t4 : (B.err == 0) = true := by rw [beq_iff_eq]; exact s1
        rw [← s3] at rw2
        rw [← s4] at rs2
        have HSm := sameRes (e := A.e) rw1 rw2 rs1 rs2 wx (ag_new w wx)
        rw (occs := .pos [2]) [s2] at HSm
        have HSm := Lib.hid HSm
        clear e1 e2 s1 s2 s3 s4 rw1 rs1 rw2 rs2 X Y hx hR
        go_wp2_with (first | (go_at_call 11; refine HSm.out.mono ?_; rintro e wy ⟨rfl, hby⟩) | (go_at_call 7; refine (wakes _).mono ?_; rintro e wz ⟨rfl, hbz⟩))
        go_ret
        exact ⟨rfl, bgo (bgo HX.out.bel hby) hbz⟩
    · have t0 : (A.err != 0) = true := by rw [bne_iff_ne]; exact e1
      obtain ⟨s1, s2⟩ := HLAW.out.bad e1
      have t1 : (A.err == B.err) = true := by rw [beq_iff_eq]; exact s1
      have t2 : (A.e == 0) = true := by rw [beq_iff_eq]; exact s2
      clear e1 s1 s2 rw1 rs1 rw2 rs2 X Y hx hR
      go_wp2_with (go_at_call 7; refine (wakes _).mono ?_; rintro e wz ⟨rfl, hbz⟩)
      go_ret
      exact ⟨rfl, bgo HX.out.bel hbz⟩
theorem fuel_any {m : Mp} {v pl : Value} {f : Flat} {l : List Int} {a b : Int} (hr : RFlat m v f) (hs : FewF 2097152 f) (hl : RInts m pl l) (w : World) (hm : Ag m w) :
    Calls Try.prog 4 #[.agg #[v, .int .i64 f.main], pl, .agg #[.int .i64 a, .int .i64 b]] w (YesPost w) := by
  by_cases hc : 300 < l.length ∨ a < 0 ∨ b < a ∨ 10000 < b
  · exact fuel_small hr hl w hm hc
  · exact fuel_main hr hs hl w hm (fun h => hc (.inl h)) (fun h => hc (.inr (.inl h))) (fun h => hc (.inr (.inr (.inl h)))) (fun h => hc (.inr (.inr (.inr h))))
end Go.Proofs.Ytjcgoohmhbgkiaa
