/- Two terms, two lists of functions, two flat programs that are one answer that they are alike. -/
import Derived.Test.YtimljadlfhccpaaProg
import Derived.Test.YtimljadlfhccpaaMA
import Derived.Test.YtimljadlfhccpaaMF
import Derived.Test.YtimljadlfhccpaaMG
set_option linter.all false
set_option linter.all false
set_option linter.all false
namespace Go.Proofs.Ytimljadlfhccpaa
open Go.RowKit
set_option maxHeartbeats 2000000

def AlikeT (t : Term) : Prop := ∀ (m : Mp) (c1 c2 : List Value), RTerm m c1 t → RTerm m c2 t → ∀ w, Ag m w → Calls Try.prog 47 #[.agg c1.toArray, .agg c2.toArray] w (fun e w' => e = .returned (.bool true) ∧ Below w.heap.size w w')
def AlikeF (l : List (Int × List Int × Term)) : Prop := ∀ (m : Mp) (v1 v2 : Value), RFuns m v1 l → RFuns m v2 l → ∀ w, Ag m w → Calls Try.prog 26 #[v1, v2] w (fun e w' => e = .returned (.bool true) ∧ Below w.heap.size w w')
set_option maxRecDepth 100000 in
theorem alikeF (l : List (Int × List Int × Term)) (ih : ∀ f ∈ l, AlikeT f.2.2) : AlikeF l := by
  intro m v1 v2 h1 h2 w hm
  obtain ⟨fb1, fc1, rfl, le1, bd1, F1⟩ := h1.opn
  obtain ⟨fb2, fc2, rfl, le2, bd2, F2⟩ := h2.opn
  have HM := Lib.hid hm
  have IH := Lib.hid ih
  clear h1 h2 hm ih
  have q0 : ((l.length : Int) != l.length) = false := by simp
  go_enter Try.func26, Try.ntmps26
  go_wp2_with fail
  go_loopg [5] (l.length) (fun g i wr => ∃ j : Nat, j + g = l.length ∧ i = .int .i64 j ∧ Hid (Below w.heap.size w wr))
  case atStart => exact ⟨0, by omega, rfl, Lib.hid (Below.refl _ _)⟩
  case round =>
    obtain ⟨j, hj, rfl, HB⟩ := hrel
    by_cases hlt : j < l.length
    · obtain ⟨b1, o1, pb1, pc1, tb1, tc1, ab1, ac1, gb1, gc1, nb1, nc1, rfl, _, hp1, ht1, hc1⟩ := F1.out j hlt
      obtain ⟨b2, o2, pb2, pc2, tb2, tc2, ab2, ac2, gb2, gc2, nb2, nc2, rfl, _, hp2, ht2, hc2⟩ := F2.out j hlt
      have hmr := HM.out.later HB.out
      obtain ⟨x0, x1, x2, x3, x4, x5, x6, x7, x8, x9⟩ := hc1 wr hmr
      obtain ⟨y0, y1, y2, y3, y4, y5, y6, y7, y8, y9⟩ := hc2 wr hmr
      obtain ⟨z3, z4, z5, z6, z7, z8, z9⟩ := flat7 x3 x4 x5 x6 x7 x8 x9
      obtain ⟨u3, u4, u5, u6, u7, u8, u9⟩ := flat7 y3 y4 y5 y6 y7 y8 y9
      have lt1 : b1 < wr.heap.size := World.block_lt_of_cell? wr ⟨b1, o1 + j * 10, none⟩ x0
      have lt2 : b2 < wr.heap.size := World.block_lt_of_cell? wr ⟨b2, o2 + j * 10, none⟩ y0
      have q1 : (l[j].1 != l[j].1) = false := by simp
      have hL := later_cell wr
      have HK := Lib.hid (fun (s : Later wr) => Calls.later_of ((kSame hp1 hp2 s.val (hmr.later s.property)).mono (R' := fun e w' => e = .returned (.bool true) ∧ Below s.val.heap.size s.val w') (fun e w' h => by obtain ⟨h, n, hn⟩ := h; exact ⟨by simpa using h, hn ▸ below_drewN (Below.refl _ _) _⟩)))
      have HT := Lib.hid (fun (s : Later wr) => Calls.later_of (IH.out _ (List.getElem_mem hlt) m _ _ ht1 ht2 s.val (hmr.later s.property)))
      clear x3 x4 x5 x6 x7 x8 x9 y3 y4 y5 y6 y7 y8 y9 hc1 hc2 hp1 hp2 ht1 ht2 hmr
      go_wp2_with fail
      refine wp_region_later (by kernel_rfl) (by kernel_rfl) ?_
      repeat (go_big_quiet_step ((first | (go_at_call 46; exact HK.out _) | (go_at_call 47; exact HT.out _))))
      refine wpQuiet_nil ?_
      intro _ hw'
      obtain ⟨⟨w1, hb1⟩, hw''⟩ := hw'
      subst hw''
      have HB1 := Lib.hid (bgo HB.out hb1)
      clear hb1 hL
      go_wp2_with fail
      go_roundg (l.length - (j + 1))
      case measure => omega
      case rel => exact ⟨j + 1, by omega, by go_num, HB1⟩
    · go_wp2_with fail
      go_ret
      exact ⟨rfl, HB.out⟩
set_option maxRecDepth 100000 in
theorem alikeT_step (t : Term) (ihf : ∀ f ∈ t.funs, AlikeT f.2.2) (ihn : ∀ s ∈ t.next, AlikeT s) : AlikeT t := by
  intro m c1 c2 h1 h2 w hm
  have F1 := RFuns.of h1
  have F2 := RFuns.of h2
  obtain ⟨tb1, tc1, ab1, ac1, fb1, fc1, nb1, nc1, rfl, O1⟩ := h1.opn
  obtain ⟨tb2, tc2, ab2, ac2, fb2, fc2, nb2, nc2, rfl, O2⟩ := h2.opn
  simp only [List.getD_cons_succ, List.getD_cons_zero] at F1 F2
  have HM := Lib.hid hm
  have HIN := Lib.hid ihn
  have HF := Lib.hid (fun (wx : World) (hb : Below w.heap.size w wx) => alikeF t.funs ihf m _ _ F1 F2 wx (hm.later hb))
  have HK := Lib.hid (fun (wx : World) (hb : Below w.heap.size w wx) => (kSame O1.tags O2.tags wx (hm.later hb)).mono (R' := fun e w' => e = .returned (.bool true) ∧ Below wx.heap.size wx w') (fun e w' h => by obtain ⟨h, n, hn⟩ := h; exact ⟨by simpa using h, hn ▸ below_drewN (Below.refl _ _) _⟩))
  have HO1 := Lib.hid O1
  have HO2 := Lib.hid O2
  have n1 := O1.nle
  have n2 := O1.nbd
  have n3 := O2.nle
  have al := O1.args.len
  have X1 := Lib.hid ((BoxAt.new w [.int .i64 t.kind, .int .i64 t.x, .int .i64 t.n, .bool t.ints, .slice tb1 t.tags.length tc1, .slice ab1 t.args.length ac1, .slice fb1 t.funs.length fc1, .slice nb1 t.next.length nc1] 34).later (below_box _ (.cells #[.int .i64 t.kind, .int .i64 t.x, .int .i64 t.n, .bool t.ints, .slice tb2 t.tags.length tc2, .slice ab2 t.args.length ac2, .slice fb2 t.funs.length fc2, .slice nb2 t.next.length nc2] 34)))
  have X2 := Lib.hid (BoxAt.new (w.alloc (.cells #[.int .i64 t.kind, .int .i64 t.x, .int .i64 t.n, .bool t.ints, .slice tb1 t.tags.length tc1, .slice ab1 t.args.length ac1, .slice fb1 t.funs.length fc1, .slice nb1 t.next.length nc1] 34)) [.int .i64 t.kind, .int .i64 t.x, .int .i64 t.n, .bool t.ints, .slice tb2 t.tags.length tc2, .slice ab2 t.args.length ac2, .slice fb2 t.funs.length fc2, .slice nb2 t.next.length nc2] 34)
  have q1 : (t.kind != t.kind) = false := by simp
  have q2 : (t.x != t.x) = false := by simp
  have q3 : (t.n != t.n) = false := by simp
  have q4 : (t.ints != t.ints) = false := by simp
  have q5 : ((t.args.length : Int) != t.args.length) = false := by simp
  have q6 : ((t.next.length : Int) != t.next.length) = false := by simp
  clear h1 h2 hm ihf ihn O1 O2 F1 F2
  go_enter Try.func47, Try.ntmps47
  go_wp2_with (first | (go_at_call 46; refine (HK.out _ (bgo (below_box _ _) (below_box _ _))).mono ?_; rintro e w3 ⟨rfl, hb3⟩; have HB3 := Lib.hid (bgo (bgo (below_box w (.cells #[.int .i64 t.kind, .int .i64 t.x, .int .i64 t.n, .bool t.ints, .slice tb1 t.tags.length tc1, .slice ab1 t.args.length ac1, .slice fb1 t.funs.length fc1, .slice nb1 t.next.length nc1] 34)) (below_box _ (.cells #[.int .i64 t.kind, .int .i64 t.x, .int .i64 t.n, .bool t.ints, .slice tb2 t.tags.length tc2, .slice ab2 t.args.length ac2, .slice fb2 t.funs.length fc2, .slice nb2 t.next.length nc2] 34))) hb3); have Y1 := Lib.hid (X1.out.later hb3); have Y2 := Lib.hid (X2.out.later hb3); clear hb3; have a5 := Y1.out.2 5 _ rfl; have a6 := Y1.out.2 6 _ rfl; have a7 := Y1.out.2 7 _ rfl; have b5 := Y2.out.2 5 _ rfl; have b6 := Y2.out.2 6 _ rfl; have b7 := Y2.out.2 7 _ rfl; simp only [World.size_alloc] at b5 b6 b7) | (go_at_call 26; refine (HF.out _ HB3.out).mono ?_; rintro e w4 ⟨rfl, hb4⟩; have HB4 := Lib.hid (bgo HB3.out hb4); have Z1 := Lib.hid (Y1.out.later hb4); have Z2 := Lib.hid (Y2.out.later hb4); clear hb4 a5 a6 a7 b5 b6 b7))
  obtain ⟨wA, hwA⟩ : ∃ x : World, x = w4 := ⟨_, rfl⟩
  subst hwA
  clear q1 q2 q3 q4 q5 q6 HK HF X1 X2 Y1 Y2 HB3
  go_loopg [5] (t.args.length) (fun g i wr => ∃ j : Nat, j + g = t.args.length ∧ i = .int .i64 j ∧ Hid (Below wA.heap.size wA wr))
  case atStart => exact ⟨0, by omega, rfl, Lib.hid (Below.refl _ _)⟩
  case round =>
    obtain ⟨j, hj, rfl, HB⟩ := hrel
    have W1 := Lib.hid (Z1.out.later HB.out)
    have W2 := Lib.hid (Z2.out.later HB.out)
    have a5 := W1.out.2 5 _ rfl
    have b5 := W2.out.2 5 _ rfl
    simp only [World.size_alloc] at b5
    by_cases hlt : j < t.args.length
    · obtain ⟨b1, o1, rfl, i1, le1, hc1⟩ := atms_at HO1.out.args j hlt
      obtain ⟨b2, o2, rfl, i2, le2, hc2⟩ := atms_at HO2.out.args j hlt
      have hmr := HM.out.later (bgo HB4.out HB.out)
      obtain ⟨x0, x1⟩ := hc1 wr hmr
      obtain ⟨y0, y1⟩ := hc2 wr hmr
      clear hc1 hc2 hmr
      go_wp2_with fail
      go_quiet (fail)
      go_wp2_with fail
      go_roundg (t.args.length - (j + 1))
      case measure => omega
      case rel => exact ⟨j + 1, by omega, by go_num, Lib.hid (below_drewN HB.out _)⟩
    · go_wp2_with fail
      clear a5 b5
      obtain ⟨wo, hwo⟩ : ∃ x : World, x = wr := ⟨_, rfl⟩
      subst hwo
      go_loopg [6] (t.next.length) (fun g i wr => ∃ k : Nat, k + g = t.next.length ∧ i = .int .i64 k ∧ Hid (Below wA.heap.size wA wr))
      case atStart => exact ⟨0, by omega, rfl, HB⟩
      case round =>
        clear HB W1 W2
        obtain ⟨k, hk, rfl, HB⟩ := hrel
        have W1 := Lib.hid (Z1.out.later HB.out)
        have W2 := Lib.hid (Z2.out.later HB.out)
        have a7 := W1.out.2 7 _ rfl
        have b7 := W2.out.2 7 _ rfl
        simp only [World.size_alloc] at b7
        by_cases hlt : k < t.next.length
        · obtain ⟨b1, o1, tb1', tc1', ab1', ac1', gb1, gc1, nb1', nc1', rfl, ht1, hc1⟩ := HO1.out.nextAt k hlt
          obtain ⟨b2, o2, tb2', tc2', ab2', ac2', gb2, gc2, nb2', nc2', rfl, ht2, hc2⟩ := HO2.out.nextAt k hlt
          have hmr := HM.out.later (bgo HB4.out HB.out)
          obtain ⟨x0, x1, x2, x3, x4, x5, x6, x7⟩ := hc1 wr hmr
          obtain ⟨y0, y1, y2, y3, y4, y5, y6, y7⟩ := hc2 wr hmr
          have lt1 : b1 < wr.heap.size := World.block_lt_of_cell? wr ⟨b1, o1 + k * 8, none⟩ x0
          have lt2 : b2 < wr.heap.size := World.block_lt_of_cell? wr ⟨b2, o2 + k * 8, none⟩ y0
          have lt3 := W1.out.1
          have lt4 := W2.out.1
          simp only [World.size_alloc] at lt4
          have hL := later_cell wr
          have HT := Lib.hid (fun (s : Later wr) => Calls.later_of (HIN.out _ (List.getElem_mem hlt) m _ _ ht1 ht2 s.val (hmr.later s.property)))
          clear hc1 hc2 hmr ht1 ht2
          go_wp2_with fail
          refine wp_region_later (by kernel_rfl) (by kernel_rfl) ?_
          repeat (go_big_quiet_step ((go_at_call 47; exact HT.out _)))
          refine wpQuiet_nil ?_
          intro _ hw'
          obtain ⟨⟨w5, hb5⟩, hw''⟩ := hw'
          subst hw''
          have HB5 := Lib.hid (bgo HB.out hb5)
          clear hb5 hL
          go_wp2_with fail
          go_roundg (t.next.length - (k + 1))
          case measure => omega
          case rel => exact ⟨k + 1, by omega, by go_num, HB5⟩
        · go_wp2_with fail
          go_ret
          exact ⟨rfl, bgo HB4.out HB.out⟩
theorem alikeT (t : Term) : AlikeT t := Term.ind (P := AlikeT) alikeT_step t
theorem alikeFs (l : List (Int × List Int × Term)) : AlikeF l := alikeF l (fun f _ => alikeT f.2.2)
set_option maxRecDepth 100000 in
/-- Two flat programs that are one. -/
theorem same25 {m : Mp} {v1 v2 : Value} {f : Flat} (h1 : RFlat m v1 f) (h2 : RFlat m v2 f) (w : World) (hm : Ag m w) :
    Calls Try.prog 12 #[.agg #[v1, .int .i64 f.main], .agg #[v2, .int .i64 f.main]] w fun e w' => e = .returned (.bool true) ∧ Below w.heap.size w w' := by
  have HF := Lib.hid (fun (wx : World) (hb : Below w.heap.size w wx) => alikeFs f.funs m _ _ h1.1 h2.1 wx (hm.later hb))
  obtain ⟨fb1, fc1, rfl, _⟩ := h1.1.opn
  obtain ⟨fb2, fc2, rfl, _⟩ := h2.1.opn
  have q : (f.main == f.main) = true := by simp
  have hbb := bgo (below_box w (.cells #[.slice fb1 f.funs.length fc1, .int .i64 f.main] 24)) (below_box _ (.cells #[.slice fb2 f.funs.length fc2, .int .i64 f.main] 24))
  clear h1 h2 hm
  go_enter Try.func12, Try.ntmps12
  go_wp2_with (go_at_call 26; refine (HF.out _ hbb).mono ?_; rintro e w3 ⟨rfl, hb3⟩)
  go_ret
  exact ⟨rfl, bgo hbb hb3⟩
end Go.Proofs.Ytimljadlfhccpaa
