/- The document's walker looks at a term that is formed. -/
import Derived.Test.YtimljadlfhccpaaProg
import Derived.Test.YtimljadlfhccpaaMRT
import Derived.Test.YtimljadlfhccpaaME
import Derived.Deep.LoopGhost
import Derived.Deep.CutBlock
import Derived.Deep.DeepCutAuto
set_option linter.all false
set_option linter.all false
set_option linter.all false
namespace Go.Proofs.Ytimljadlfhccpaa
open Go.RowKit
set_option linter.all false
set_option maxHeartbeats 4000000

theorem BoxAt.kept {B : Nat} {w w' : World} {cs : List Value} {S : List Nat} (h : BoxAt B w cs) (hk : Kept S w w') (hB : B ∉ S) : BoxAt B w' cs := ⟨Nat.lt_of_lt_of_le h.1 hk.size, fun j v hv => hk.cell (h.2 j v hv) hB⟩
/-- Where the walk over a term stands. -/
structure GS (wb eb hb : Nat) (Fb : Option Addr) (nf Fc : Nat) (main : Int) (w : World) (cs : List Value) (E H : List Int) (ok : Bool) (wx : World) : Prop where
  wk : Wk wb eb hb Fb nf Fc main wx E H ok
  kept : Kept [wb, eb, hb] w wx
  box : BoxAt w.heap.size wx cs
section
variable {wb eb hb : Nat} {Fb : Option Addr} {nf Fc : Nat} {main : Int} {w wx wy : World} {cs : List Value} {E H : List Int} {ok : Bool}
theorem GS.later (h : GS wb eb hb Fb nf Fc main w cs E H ok wx) (hb' : Below wx.heap.size wx wy) : GS wb eb hb Fb nf Fc main w cs E H ok wy := ⟨h.wk.later hb', h.kept.trans (Kept.below hb'), h.box.later hb'⟩
theorem GS.drew (h : GS wb eb hb Fb nf Fc main w cs E H ok wx) : GS wb eb hb Fb nf Fc main w cs E H ok wx.drew := ⟨h.wk.drew, h.kept.trans (Kept.below (Below.refl _ _).drew), h.box.later (Below.refl _ _).drew⟩
theorem GS.step (h : GS wb eb hb Fb nf Fc main w cs E H ok wx) (hN : w.heap.size ∉ [wb, eb, hb]) {E' H' : List Int} {ok' : Bool} (h1 : Wk wb eb hb Fb nf Fc main wy E' H' ok') (h2 : Kept [wb, eb, hb] wx wy) : GS wb eb hb Fb nf Fc main w cs E' H' ok' wy :=
  ⟨h1, h.kept.trans h2, h.box.kept h2 hN⟩
theorem GS.cells (h : GS wb eb hb Fb nf Fc main w cs E H ok wx) : (∀ j v, cs[j]? = some v → wx.cell? ⟨w.heap.size, j, none⟩ = some v) ∧ wx.cell? ⟨wb, 2, none⟩ = some (.map (some eb)) ∧ wx.cell? ⟨wb, 3, none⟩ = some (.map (some hb)) ∧ wx.cell? ⟨wb, 4, none⟩ = some (.bool ok) ∧ wx.frozen? ⟨wb, 4, none⟩ = false ∧ wb < wx.heap.size :=
  ⟨h.box.2, h.wk.c2, h.wk.c3, h.wk.c4, h.wk.fz, h.wk.lt⟩
end
/-- What has become of the test behind the binding. -/
def S2 (nf : Nat) (main : Int) (t : Term) (E H E1 H1 : List Int) (ok : Bool) (j : Nat) : Prop :=
  (ok = true → goodT nf main t E H = goodTs nf main (t.next.drop j) E1 H1 ∧ (bindsB t.kind = true → H1 = t.x :: H ∧ t.x ∉ H) ∧ (bindsB t.kind = false → H1 = H)) ∧ (ok = false → goodT nf main t E H = none)
theorem S2.step {nf : Nat} {main : Int} {t : Term} {E H E1 H1 E2 : List Int} {j : Nat} (h : S2 nf main t E H E1 H1 true j) (hj : j < t.next.length) (hg : goodT nf main t.next[j] E1 H1 = some E2) : S2 nf main t E H E2 H1 true (j + 1) := by
  refine ⟨fun _ => ?_, fun h => by cases h⟩
  obtain ⟨h1, h2⟩ := h.1 rfl
  refine ⟨?_, h2⟩
  rw [h1, List.drop_eq_getElem_cons hj, goodTs, hg]
theorem S2.fail {nf : Nat} {main : Int} {t : Term} {E H E1 H1 E2 H2 : List Int} {j : Nat} (h : S2 nf main t E H E1 H1 true j) (hj : j < t.next.length) (hg : goodT nf main t.next[j] E1 H1 = none) (k : Nat) : S2 nf main t E H E2 H2 false k := by
  refine ⟨fun h => (by cases h), fun _ => ?_⟩
  obtain ⟨h1, h2⟩ := h.1 rfl
  rw [h1, List.drop_eq_getElem_cons hj, goodTs, hg]
theorem wk_del {wb eb hb : Nat} {Fb : Option Addr} {nf Fc : Nat} {main : Int} {w X : World} {E H : List Int} {ok : Bool} {x : Int} {esH : List (Int × Value)} (h : Wk wb eb hb Fb nf Fc main w E (x :: H) ok) (hx : x ∉ H) (hH : ArdM esH (x :: H))
    (hI : IMap X hb (putA esH x (.int .i64 0))) (hg : w.drew.grownBy X (some hb)) : Wk wb eb hb Fb nf Fc main X E H ok ∧ Kept [wb, eb, hb] w X := by
  have hlt := h.lt
  have hle := h.lte
  obtain ⟨c0, c1, c2, c3, c4, fz, ne, ne1, ne2, sub, ⟨es, i1, m1⟩, _⟩ := h
  have kp : Kept [hb] w.drew X := Kept.grown hg (by simp)
  have hk : X.heap[wb]? = w.heap[wb]? := kp.block wb hlt (by simp [ne2])
  have hc : ∀ j, X.cell? ⟨wb, j, none⟩ = w.cell? ⟨wb, j, none⟩ := fun j => World.cell?_of_block hk
  exact ⟨⟨(hc 0).trans c0, (hc 1).trans c1, (hc 2).trans c2, (hc 3).trans c3, (hc 4).trans c4, (World.frozen?_of_block (a := ⟨wb, 4, none⟩) hk).trans fz, ne, ne1, ne2, fun y hy => sub y (List.mem_cons_of_mem _ hy),
    ⟨es, i1.same (kp.block eb hle (by simp [ne])), m1⟩, ⟨_, hI, hH.del hx⟩⟩, ⟨kp.os, kp.tape, kp.output, kp.size, fun k hk' hs => kp.block k hk' (by simp at hs ⊢; exact hs.2.2)⟩⟩
set_option maxRecDepth 100000 in
theorem rterm_good {nf : Nat} {main : Int} (hsp : ShapeSpec) {t : Term} (hsm : SmallT t) (hnf : nf ≤ 4096) (hgood : formedB nf main t = true) (ihn : ∀ s ∈ t.next, RSpec nf main s) {m : Mp} {c : List Value} (hr : RTerm m c t) {wb eb hb : Nat} {Fb : Option Addr} {Fc : Nat} {w : World} {E H : List Int} (hm : Ag m w) (ho : Off m wb) (hk : Wk wb eb hb Fb nf Fc main w E H true) :
    Calls Try.prog 24 #[.pointer (some ⟨wb, 0, none⟩), .agg c.toArray] w (RPost wb eb hb Fb nf Fc main H w (goodT nf main t E H)) := by
  obtain ⟨tb, tcap, ab', acap, fb, fcap, nb, ncap, rfl, O⟩ := hr.opn
  have hgood0 := hgood
  rw [← refFormed_eq hsm.next.1] at hgood
  have HK := Lib.hid hk
  have HM := Lib.hid hm
  have HOFF := Lib.hid ho
  have hwb := hk.lt
  have n2 := O.nbd
  have nle := O.nle
  obtain ⟨c0, c1, c2, c3, c4, fz, ne, ne1, ne2, sub, _, _⟩ := hk
  have HSUB := Lib.hid sub
  have Hsh := Lib.hid (fun (w' : World) (hb' : Below w.heap.size w w') => hsp O w' (hm.later hb'))
  have HB25 := Lib.hid (fun (w' : World) => binds25 hr w')
  have HO := Lib.hid O
  have hal := O.args.len
  have HIH := Lib.hid ihn
  have HN3 : Hid (w.heap.size ∉ [wb, eb, hb]) := Lib.hid (by have h1 := HK.out.lt; have h2 := HK.out.lte; have h3 := HK.out.lth; simp; omega)
  have HG := Lib.hid (show goodT nf main t E H = if t.args.all (atomOk H) then (if bindsB t.kind then (if mayBind E t.x then goodTs nf main t.next (t.x :: E) (t.x :: H) else none) else goodTs nf main t.next E H) else none from by rw [goodT_eq, hgood0, Bool.true_and])
  clear hr hm ho O sub hsp hsm ihn hgood0
  unfold refFormed at hgood
  simp only [Bool.and_eq_true, Bool.not_eq_true'] at hgood
  obtain ⟨⟨hs, q4⟩, hbad⟩ := hgood
  rw [hs] at Hsh
  clear hs
  have hcase : Hid ((t.kind == 9) = false ∨ ((t.kind == 9) = true ∧ decide ((nf : Int) ≤ t.n) = false ∧ (t.n == main) = false)) := Lib.hid (by
    cases h9 : (t.kind == 9) with
    | false => exact .inl rfl
    | true => rw [h9, Bool.true_and, Bool.or_eq_false_iff] at hbad; exact .inr ⟨rfl, hbad⟩)
  clear hbad
  go_enter Try.func24, Try.ntmps24
  go_wp2_with fail
  go_cut [47] (fun v wx => v = .bool false ∧ Hid (GS wb eb hb Fb nf Fc main w [.int .i64 t.kind, .int .i64 t.x, .int .i64 t.n, .bool t.ints, .slice tb t.tags.length tcap, .slice ab' t.args.length acap, .slice fb t.funs.length fcap, .slice nb t.next.length ncap] E H true wx))
  case first =>
    have hL := later_cell (w.alloc (.cells #[.int .i64 t.kind, .int .i64 t.x, .int .i64 t.n, .bool t.ints, .slice tb t.tags.length tcap, .slice ab' t.args.length acap, .slice fb t.funs.length fcap, .slice nb t.next.length ncap] 34))
    have HshL := Lib.hid (fun (s : Later (w.alloc (.cells #[.int .i64 t.kind, .int .i64 t.x, .int .i64 t.n, .bool t.ints, .slice tb t.tags.length tcap, .slice ab' t.args.length acap, .slice fb t.funs.length fcap, .slice nb t.next.length ncap] 34))) => Calls.later_of (Hsh.out s.val (bgo (below_box _ _) s.property)))
    rcases hcase.out with q9 | ⟨q9, q1, q2⟩
    all_goals
      refine wp_region_later (by kernel_rfl) (by kernel_rfl) ?_
      repeat (go_big_quiet_step ((go_at_call 42; exact HshL.out _)))
      refine wpQuiet_nil ?_
      intro _ hw'
      obtain ⟨⟨w1, hb1⟩, hw''⟩ := hw'
      subst hw''
      go_wp2_with fail
      go_meet
      exact ⟨rfl, Lib.hid ⟨HK.out.later (bgo (below_box w _) hb1), Kept.below (bgo (below_box w _) hb1), (BoxAt.new w [.int .i64 t.kind, .int .i64 t.x, .int .i64 t.n, .bool t.ints, .slice tb t.tags.length tcap, .slice ab' t.args.length acap, .slice fb t.funs.length fcap, .slice nb t.next.length ncap] 34).later hb1⟩⟩
  case rest =>
  obtain ⟨rfl, HS⟩ := hcut
  clear hcase Hsh c0 c1 c2 c3 c4 fz
  go_upto_block 0 with fail
  go_cut [] (fun wx => ∃ ok, Hid (GS wb eb hb Fb nf Fc main w [.int .i64 t.kind, .int .i64 t.x, .int .i64 t.n, .bool t.ints, .slice tb t.tags.length tcap, .slice ab' t.args.length acap, .slice fb t.funs.length fcap, .slice nb t.next.length ncap] E H ok wx) ∧ Hid (t.args.all (atomOk H) = ok))
  case first =>
    go_wp2_with fail
    go_loopg [4] (t.args.length) (fun g i wr => ∃ (j : Nat) (ok : Bool), j + g = t.args.length ∧ i = .int .i64 j ∧ Hid (GS wb eb hb Fb nf Fc main w [.int .i64 t.kind, .int .i64 t.x, .int .i64 t.n, .bool t.ints, .slice tb t.tags.length tcap, .slice ab' t.args.length acap, .slice fb t.funs.length fcap, .slice nb t.next.length ncap] E H ok wr) ∧ Hid (t.args.all (atomOk H) = (ok && (t.args.drop j).all (atomOk H))))
    case atStart => exact ⟨0, true, by omega, rfl, HS, Lib.hid (by simp)⟩
    case round =>
      obtain ⟨j, ok, hj, rfl, HR, hrem⟩ := hrel
      obtain ⟨D, _, e3, e4, ez, lwb⟩ := HR.out.cells
      have d5 := D 5 _ rfl
      clear D
      by_cases hlt : j < t.args.length
      · cases ok with
        | true =>
          obtain ⟨b, o, rfl, a0, a1, hI⟩ := HO.out.args.at (HM.out.keptW HOFF.out HK.out HR.out.kept) j hlt
          have hdrop : Hid ((t.args.drop j).all (atomOk H) = (atomOk H t.args[j] && (t.args.drop (j + 1)).all (atomOk H))) := Lib.hid (by rw [List.drop_eq_getElem_cons hlt, List.all_cons])
          cases hv : t.args[j].var with
          | true =>
            rw [hv] at a0
            have hat : Hid (atomOk H t.args[j] = H.contains t.args[j].n) := Lib.hid (by unfold atomOk; rw [hv]; rfl)
            obtain ⟨esH, IH, MH⟩ := HR.out.wk.ards
            have hn := MH t.args[j].n
            have hlk := run_lookup_I Try.underlying52 Try.underlying3 zero_int (w := (wr.alloc (.cells #[.bool true, .int .i64 t.args[j].n] 76)).drew) ((IH.below (below_box wr _)).same rfl) t.args[j].n false
            rw [hn] at hlk
            clear hn MH IH
            cases hc : H.contains t.args[j].n with
            | true =>
              rw [hc] at hat
              rw [hc, if_pos rfl] at hlk
              have HW2 := Lib.hid (wk_set HR.out.wk true)
              clear hc
              go_wp2_with fail
              go_region
              all_goals go_wp2_with fail
              go_roundg (t.args.length - (j + 1))
              case measure => omega
              case rel => exact ⟨j + 1, _, by omega, by go_num, Lib.hid ((HR.out.step HN3.out HW2.out.1 HW2.out.2).later (below_box _ _)).drew, Lib.hid (by rw [hrem.out, Bool.true_and, hdrop.out, hat.out])⟩
            | false =>
              rw [hc] at hat
              rw [hc, if_neg Bool.false_ne_true] at hlk
              have HW2 := Lib.hid (wk_set HR.out.wk false)
              clear hc
              go_wp2_with fail
              go_region
              all_goals go_wp2_with fail
              go_roundg (t.args.length - (j + 1))
              case measure => omega
              case rel => exact ⟨j + 1, _, by omega, by go_num, Lib.hid ((HR.out.step HN3.out HW2.out.1 HW2.out.2).later (below_box _ _)).drew, Lib.hid (by rw [hrem.out, Bool.true_and, hdrop.out, hat.out])⟩
          | false =>
            rw [hv] at a0
            have hat : Hid (atomOk H t.args[j] = inB t.args[j].n) := Lib.hid (by unfold atomOk; rw [hv]; rfl)
            have HW2 := Lib.hid (wk_set HR.out.wk (inB t.args[j].n))
            go_wp2_with (go_at_call 43; refine (rIn _ _).mono ?_; rintro e w' ⟨rfl, rfl⟩)
            go_roundg (t.args.length - (j + 1))
            case measure => omega
            case rel => exact ⟨j + 1, _, by omega, by go_num, Lib.hid ((HR.out.step HN3.out HW2.out.1 HW2.out.2).later (below_box _ _)), Lib.hid (by rw [hrem.out, Bool.true_and, hdrop.out, hat.out])⟩
        | false =>
          go_wp2_with fail
          go_meet
          exact ⟨false, HR, Lib.hid (by rw [hrem.out, Bool.false_and])⟩
      · have hjl : j = t.args.length := by omega
        subst hjl
        go_wp2_with fail
        go_meet
        exact ⟨ok, HR, Lib.hid (by rw [hrem.out]; simp)⟩
  case rest =>
  obtain ⟨ok, HR, hall⟩ := hcut
  go_upto_region 10 with fail
  go_cut [95] (fun v wx => v = .bool (bindsB t.kind && ok) ∧ Hid (GS wb eb hb Fb nf Fc main w [.int .i64 t.kind, .int .i64 t.x, .int .i64 t.n, .bool t.ints, .slice tb t.tags.length tcap, .slice ab' t.args.length acap, .slice fb t.funs.length fcap, .slice nb t.next.length ncap] E H ok wx))
  case first =>
    have HB2 := Lib.hid HB25.out
    obtain ⟨D, _, _, e4, _, lwb⟩ := HR.out.cells
    have D0 := D 0 _ rfl
    have D1 := D 1 _ rfl
    have D2 := D 2 _ rfl
    have D3 := D 3 _ rfl
    have D4 := D 4 _ rfl
    have D5 := D 5 _ rfl
    have D6 := D 6 _ rfl
    have D7 := D 7 _ rfl
    clear D
    cases hbd : bindsB t.kind
    all_goals rw [hbd] at HB2
    all_goals have HBD := Lib.hid hbd
    all_goals clear hbd
    all_goals cases ok
    all_goals go_wp2_with (go_at_call 44; refine (HB2.out _).mono ?_; rintro e w2 ⟨rfl, hb2⟩; have f4 := (HR.out.later hb2).wk.c4)
    all_goals go_meet
    all_goals exact ⟨by rw [HBD.out]; rfl, Lib.hid (HR.out.later hb2)⟩
  case rest =>
  obtain ⟨rfl, HR2⟩ := hcut
  clear HR
  go_upto_if 95 with fail
  go_cut [] (fun wx => ∃ E1 H1 ok1, Hid (GS wb eb hb Fb nf Fc main w [.int .i64 t.kind, .int .i64 t.x, .int .i64 t.n, .bool t.ints, .slice tb t.tags.length tcap, .slice ab' t.args.length acap, .slice fb t.funs.length fcap, .slice nb t.next.length ncap] E1 H1 ok1 wx) ∧ Hid (S2 nf main t E H E1 H1 ok1 0))
  case first =>
    obtain ⟨D, _, _, e4, _, lwb⟩ := HR2.out.cells
    have D1 := D 1 _ rfl
    clear D
    cases hbd : bindsB t.kind with
    | false =>
      simp only [Bool.false_and]
      go_wp2_with fail
      go_meet
      exact ⟨E, H, ok, HR2, Lib.hid ⟨fun h => ⟨by rw [HG.out, hall.out, h, if_pos rfl, hbd, if_neg Bool.false_ne_true, List.drop_zero], fun h2 => by rw [hbd] at h2; (cases h2), fun _ => rfl⟩, fun h => by rw [HG.out, hall.out, h, if_neg Bool.false_ne_true]⟩⟩
    | true =>
      cases ok with
      | false =>
        simp only [Bool.and_false]
        go_wp2_with fail
        go_meet
        exact ⟨E, H, false, HR2, Lib.hid ⟨fun h => (by cases h), fun h => by rw [HG.out, hall.out, if_neg Bool.false_ne_true]⟩⟩
      | true =>
        simp only [Bool.and_true]
        have HBD := Lib.hid hbd
        clear hbd
        go_wp2_with (go_at_call 23; refine (rbind HR2.out.wk _).mono ?_; rintro e w3 ⟨rfl, hk3, hw3⟩; have HR3 := Lib.hid (HR2.out.step HN3.out hw3 hk3); clear hk3 hw3)
        go_meet
        refine ⟨t.x :: E, t.x :: H, _, HR3, Lib.hid ⟨fun h => ?_, fun h => ?_⟩⟩
        · rw [Bool.true_and] at h
          refine ⟨by rw [HG.out, hall.out, if_pos rfl, HBD.out, if_pos rfl, h, if_pos rfl, List.drop_zero], fun _ => ⟨rfl, fun hx => ?_⟩, fun h2 => by rw [HBD.out] at h2; (cases h2)⟩
          have hE := HSUB.out _ hx
          simp only [mayBind, Bool.and_eq_true, Bool.not_eq_true'] at h
          have := List.contains_iff_mem.2 hE
          rw [this] at h
          exact absurd h.1.1 (by decide)
        · rw [Bool.true_and] at h
          rw [HG.out, hall.out, if_pos rfl, HBD.out, if_pos rfl, h, if_neg Bool.false_ne_true]
  case rest =>
  obtain ⟨E1, H1, ok1, HR3, HS2⟩ := hcut
  clear HR2 hall HSUB
  go_upto_block 2 with fail
  go_cut [] (fun wx => ∃ E2 H2 ok2, Hid (GS wb eb hb Fb nf Fc main w [.int .i64 t.kind, .int .i64 t.x, .int .i64 t.n, .bool t.ints, .slice tb t.tags.length tcap, .slice ab' t.args.length acap, .slice fb t.funs.length fcap, .slice nb t.next.length ncap] E2 H2 ok2 wx) ∧ Hid (S2 nf main t E H E2 H2 ok2 t.next.length))
  case first =>
    go_wp2_with fail
    go_loopg [6] (t.next.length) (fun g i wr => ∃ (j : Nat) (E2 H2 : List Int) (ok2 : Bool), j + g = t.next.length ∧ i = .int .i64 j ∧ Hid (GS wb eb hb Fb nf Fc main w [.int .i64 t.kind, .int .i64 t.x, .int .i64 t.n, .bool t.ints, .slice tb t.tags.length tcap, .slice ab' t.args.length acap, .slice fb t.funs.length fcap, .slice nb t.next.length ncap] E2 H2 ok2 wr) ∧ Hid (S2 nf main t E H E2 H2 ok2 j))
    case atStart => exact ⟨0, E1, H1, ok1, by omega, rfl, HR3, HS2⟩
    case round =>
      obtain ⟨j, E2, H2, ok2, hj, rfl, HR, HQ⟩ := hrel
      obtain ⟨D, _, e3, e4, ez, lwb⟩ := HR.out.cells
      have d7 := D 7 _ rfl
      clear D
      by_cases hlt : j < t.next.length
      · cases ok2 with
        | false =>
          go_wp2_with fail
          go_meet
          exact ⟨E2, H2, false, HR, Lib.hid ⟨fun h => (by cases h), HQ.out.2⟩⟩
        | true =>
          have hAg := HM.out.keptW HOFF.out HK.out HR.out.kept
          obtain ⟨b, o, tb', tc', ab2, ac', fb', fc', nb', nc', rfl, hrs, hcs⟩ := HO.out.nextAt j hlt
          obtain ⟨x0, x1, x2, x3, x4, x5, x6, x7⟩ := hcs _ hAg
          have HC := Lib.hid (HIH.out _ (List.getElem_mem hlt) m _ hrs wb eb hb Fb Fc wr E2 H2 hAg HOFF.out HR.out.wk)
          clear hcs hrs hAg
          go_wp2_with (go_at_call 24; refine HC.out.mono ?_; clear HC; rintro e w3 ⟨rfl, hk3, hs3, hn3⟩)
          cases hg : goodT nf main t.next[j] E2 H2 with
          | none =>
            obtain ⟨E3, H3, hw3⟩ := hn3 hg
            go_roundg (t.next.length - (j + 1))
            case measure => omega
            case rel => exact ⟨j + 1, E3, H3, false, by omega, by go_num, Lib.hid (HR.out.step HN3.out hw3 hk3), Lib.hid (HQ.out.fail hlt hg _)⟩
          | some E3 =>
            have hw3 := hs3 _ hg
            go_roundg (t.next.length - (j + 1))
            case measure => omega
            case rel => exact ⟨j + 1, E3, H2, true, by omega, by go_num, Lib.hid (HR.out.step HN3.out hw3 hk3), Lib.hid (HQ.out.step hlt hg)⟩
      · have hjl : j = t.next.length := by omega
        subst hjl
        go_wp2_with fail
        go_meet
        exact ⟨E2, H2, ok2, HR, HQ⟩
  case rest =>
  obtain ⟨E2, H2, ok2, HR4, HS3⟩ := hcut
  clear HR3 HS2 HG HIH HO
  go_upto_region 16 with fail
  go_cut [127] (fun v wx => v = .bool (bindsB t.kind && ok2) ∧ Hid (GS wb eb hb Fb nf Fc main w [.int .i64 t.kind, .int .i64 t.x, .int .i64 t.n, .bool t.ints, .slice tb t.tags.length tcap, .slice ab' t.args.length acap, .slice fb t.funs.length fcap, .slice nb t.next.length ncap] E2 H2 ok2 wx))
  case first =>
    have HB2 := Lib.hid HB25.out
    obtain ⟨D, _, _, e4, _, lwb⟩ := HR4.out.cells
    have D0 := D 0 _ rfl
    have D1 := D 1 _ rfl
    have D2 := D 2 _ rfl
    have D3 := D 3 _ rfl
    have D4 := D 4 _ rfl
    have D5 := D 5 _ rfl
    have D6 := D 6 _ rfl
    have D7 := D 7 _ rfl
    clear D
    cases hbd : bindsB t.kind
    all_goals rw [hbd] at HB2
    all_goals have HBD := Lib.hid hbd
    all_goals clear hbd
    all_goals cases ok2
    all_goals go_wp2_with (go_at_call 44; refine (HB2.out _).mono ?_; rintro e w2 ⟨rfl, hb2⟩; have f4 := (HR4.out.later hb2).wk.c4)
    all_goals go_meet
    all_goals exact ⟨by rw [HBD.out]; rfl, Lib.hid (HR4.out.later hb2)⟩
  case rest =>
  obtain ⟨rfl, HR⟩ := hcut
  clear HR4
  obtain ⟨D, _, e3, e4, _, lwb⟩ := HR.out.cells
  have D1 := D 1 _ rfl
  clear D
  cases ok2 with
  | false =>
    simp only [Bool.and_false]
    go_wp2_with fail
    go_end0
    exact ⟨rfl, HR.out.kept, fun E' h => (by rw [HS3.out.2 rfl] at h; cases h), fun _ => ⟨_, _, HR.out.wk⟩⟩
  | true =>
    simp only [Bool.and_true]
    obtain ⟨g1, g2, g3⟩ := HS3.out.1 rfl
    rw [List.drop_length, goodTs] at g1
    have HG1 := Lib.hid g1
    clear g1
    cases hbd : bindsB t.kind with
    | false =>
      obtain rfl := g3 hbd
      clear g2 g3
      go_wp2_with fail
      go_end0
      exact ⟨rfl, HR.out.kept, fun E' h => (by rw [HG1.out] at h; cases h; exact HR.out.wk), fun h => (by rw [HG1.out] at h; cases h)⟩
    | true =>
      obtain ⟨rfl, hxH⟩ := g2 hbd
      have HXH := Lib.hid hxH
      obtain ⟨esH, IH, MH⟩ := HR.out.wk.ards
      obtain ⟨w5, hrun, hI5, hgr, hsz⟩ := run_mapUpdate_I (w := wc.drew) Try.underlying52 Try.underlying3 (IH.same rfl) t.x (.int .i64 0)
      have HF := Lib.hid (wk_del HR.out.wk HXH.out MH hI5 hgr)
      clear g2 g3 hxH hbd MH IH hI5 hgr hsz
      go_wp2_with fail
      go_region
      all_goals go_wp2_with fail
      all_goals go_end0
      all_goals exact ⟨rfl, HR.out.kept.trans HF.out.2, fun E' h => (by rw [HG1.out] at h; cases h; exact HF.out.1), fun h => (by rw [HG1.out] at h; cases h)⟩
end Go.Proofs.Ytimljadlfhccpaa
