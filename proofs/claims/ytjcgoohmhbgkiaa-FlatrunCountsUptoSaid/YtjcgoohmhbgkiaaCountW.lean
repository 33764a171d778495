/- The counts: the law's walk. -/
import Derived.Test.YtjcgoohmhbgkiaaProg
import Derived.Test.YtjcgoohmhbgkiaaMCount
import Derived.Test.YtjcgoohmhbgkiaaRGoodV
import Derived.Test.YtjcgoohmhbgkiaaFuelW
import Derived.Deep.CutBlock
import Derived.Deep.DeepCutAuto
set_option linter.all false
set_option linter.all false
namespace Go.Proofs.Ytjcgoohmhbgkiaa
open Go.RowKit
set_option maxHeartbeats 2000000

def CountOk (f : Flat) (l : List Int) (fuel : Int) : Prop := goodFlat f = true ∧ l.length ≤ 50 ∧ 0 ≤ fuel ∧ fuel ≤ 10000
set_option maxRecDepth 100000 in
theorem count_any {m : Mp} {v pl : Value} {f : Flat} {l : List Int} {fuel : Int} (hr : RFlat m v f) (hl : RInts m pl l) (w : World) (hm : Ag m w) :
    Calls Try.prog 5 #[.agg #[v, .int .i64 f.main], pl, .int .i64 fuel] w (YesPost w) := by
  have HL := Lib.hid (fun (wx : World) (hb : Below w.heap.size w wx) => large25 hr wx (hm.later hb))
  have HG := Lib.hid (fun (wx : World) (hb : Below w.heap.size w wx) => good25 hr wx (hm.later hb))
  have HM := Lib.hid hm
  have HI := Lib.hid hl
  have HR := Lib.hid hr
  obtain ⟨i1, hi1, hz1, hs1, hy1⟩ := info_parts infoI
  obtain ⟨fb, fcap, rfl, _⟩ := hr.1.opn
  obtain ⟨ao, cap, rfl, hcap, hln, _⟩ := hl.open hm
  have hbx := BoxAt.new w [.slice fb f.funs.length fcap, .int .i64 f.main] 24
  have h0 : FuAt w (.slice fb f.funs.length fcap) (.int .i64 f.main) (w.alloc (.cells #[.slice fb f.funs.length fcap, .int .i64 f.main] 24)) := ⟨below_box _ _, hbx.2 0 _ rfl, hbx.2 1 _ rfl⟩
  have H0 := Lib.hid h0
  clear hr hl hm hbx h0
  go_enter Try.func5, Try.ntmps5
  go_upto_region 1 with fail
  go_cut [30] (fun v wx => ∃ b, v = .bool b ∧ Hid (b = false → CountOk f l fuel) ∧ Hid (FuAt w (.slice fb f.funs.length fcap) (.int .i64 f.main) wx))
  case first =>
    all_goals go_wp2_with (first | (go_at_call 6; refine (HL.out _ H0.out.bel).mono ?_; rintro e w1 ⟨r, rfl, hb1⟩; have H1 := Lib.hid (H0.out.next hb1); clear hb1; have d0 := H1.out.c0; have d1 := H1.out.c1; cases r) | (go_at_call 17; refine (HG.out _ H1.out.bel).mono ?_; rintro e w2 ⟨rfl, hb2⟩; have H2 := Lib.hid (H1.out.next hb2); clear hb2))
    all_goals go_meet
    all_goals first | exact ⟨_, rfl, Lib.hid (fun h => (by cases h)), H1⟩ | exact ⟨_, rfl, Lib.hid (fun h => (by cases h)), H2⟩ | exact ⟨_, rfl, Lib.hid (fun h => (by simp only [Bool.or_eq_false_iff, Bool.not_eq_false', decide_eq_false_iff_not] at h; exact ⟨h.2, by omega, by omega, by omega⟩)), H2⟩
  case rest =>
  obtain ⟨b, rfl, hok, H1⟩ := hcut
  cases b with
  | true =>
    go_wp2_with (go_at_call 7; refine (wakes _).mono ?_; rintro e w2 ⟨rfl, hb2⟩)
    go_ret
    exact ⟨rfl, bgo H1.out.bel hb2⟩
  | false =>
  obtain ⟨hg, hlen, hf0, hf1⟩ := hok.out rfl
  have k1 := count_plain hg l fuel (by omega) hf0 (by omega)
  have k2 := count_bound hg l fuel (by omega) hf0 (by omega)
  obtain ⟨A, hA⟩ : ∃ A, runF f l fuel = A := ⟨_, rfl⟩
  rw [hA] at k1 k2
  obtain ⟨k1, k3, k4, k5⟩ := k1
  have HA := Lib.hid hA
  have d0 := H1.out.c0
  have d1 := H1.out.c1
  have l1 := H1.out.lt
  clear hA hok hg
  go_wp2_with (at_builtin; refine wpList_append0 rfl (.tmp 32) (.tmp 33) rfl Try.underlying25 hi1 hz1 hs1 hy1 rfl (by decide) (g := wc.heap.size) (base := wc.heap.size) rfl (by exact heap_alloc_new _ _) (Nat.le_refl _) rfl (by simp) (src_ints HI.out (HM.out.later (bgo H1.out.bel (below_box _ _)))) (intsCells_one _) (by unfold maxLen; omega) (by omega) (by simp) ?_; intro v3 w3 ho3 hb3; have H3 := Lib.hid ((H1.out.next (below_box _ _)).next hb3); have HI3 := Lib.hid (input_new HI.out hln H1.out.bel.size ho3); obtain ⟨ao3, cap3, rfl⟩ := ownsRow_slice ho3; clear ho3 hb3; have d30 := H3.out.c0; have d31 := H3.out.c1; have l3 := H3.out.lt)
  have HRw := Lib.hid (HR.out.mono (m' := fun a => w3.cell? a) (HM.out.later H3.out.bel))
  have HIw := Lib.hid (HI3.out.mono (m' := fun a => w3.cell? a) (fun _ _ h => newM_cell h))
  have hL := later_cell w3
  have HS := Lib.hid (fun (s : Later w3) => Calls.later_of (flSteps HRw.out fuel s.val ((Ag.self w3).later s.property) HIw.out))
  have HMd := Lib.hid (fun (s : Later w3) => Calls.later_of (flMade HRw.out fuel s.val ((Ag.self w3).later s.property) HIw.out))
  have HWk := Lib.hid (fun (s : Later w3) => Calls.later_of (flWork HRw.out fuel s.val ((Ag.self w3).later s.property) HIw.out))
  rw [HA.out] at HS HMd HWk
  refine wp_region_later (by kernel_rfl) (by kernel_rfl) ?_
  repeat (go_big_quiet_step ((first | (go_at_call 13; exact HS.out _) | (go_at_call 14; exact HMd.out _) | (go_at_call 15; exact HWk.out _))))
  refine wpQuiet_nil ?_
  intro _ hw'
  obtain ⟨⟨w4, hb4⟩, hw''⟩ := hw'
  subst hw''
  have H4 := Lib.hid (H3.out.next hb4)
  clear hb4 hL
  go_wp2_with (go_at_call 7; refine (wakes _).mono ?_; rintro e w5 ⟨rfl, hb5⟩)
  go_ret
  exact ⟨rfl, bgo H4.out.bel hb5⟩
end Go.Proofs.Ytjcgoohmhbgkiaa
