/- The machine: a call. The machine: what a term does. The frame's slots; objects. -/
import Derived.Test.YtjcgoohmhbgkiaaProg
import Derived.Test.YtjcgoohmhbgkiaaMFi
import Derived.Test.YtjcgoohmhbgkiaaTailQ
set_option linter.all false
set_option linter.all false
set_option linter.all false
namespace Go.Proofs.Ytjcgoohmhbgkiaa
open Go.RowKit
set_option maxHeartbeats 800000

theorem load_later {b o : Nat} {x : Int} {w : World} (hc : w.cell? ⟨b, o, none⟩ = some (.int .i64 x)) (s : Later w) :
    Calls Try.prog 26 #[.pointer (some ⟨b, o, none⟩)] s.val fun e w'' => e = .returned (.int .i64 x) ∧ ∃ s' : Later w, w'' = s'.val :=
  (load_any ((s.property.cell (World.block_lt_of_cell? w _ hc)).trans hc)).mono (fun e w' h => ⟨h.1, s, h.2⟩)
set_option maxRecDepth 100000 in
theorem call_fuel {c : Ctx} {w : World} {S : List Nat} {steps : Nat} {s : St} {vw vs : Value} {sh : List Int} {pt pf : Value} (hM : Mch c w S steps s vw vs sh) (hf : steps = c.fuel) :
    Calls Try.prog 54 #[.pointer (some ⟨c.M, 0, none⟩), pt, pf] w fun e w' => e = thrown false 3 ∧ Mch c w' S steps s vw vs sh ∧ Below w.heap.size w w' := by
  have c0 := hM.c0
  have c6 := hM.c6
  rw [hf] at c0
  have hL := later_cell w
  have ltM := hM.ltM
  have HLD := Lib.hid (load_later c0)
  have HM := Lib.hid hM
  clear hM hf
  go_enter Try.func54, Try.ntmps54
  go_wp2_with fail
  refine wp_region_later (by kernel_rfl) (by kernel_rfl) ?_
  repeat (go_big_quiet_step ((go_at_call 26; exact HLD.out _)))
  refine wpQuiet_nil ?_
  intro w1 hw'
  obtain ⟨⟨wz, hb1⟩, hw''⟩ := hw'
  subst hw''
  go_wp2_with fail
  exact ⟨rfl, rfl, HM.out.later hb1, hb1⟩
/-- What a call finds: its values, and the counter one more. -/
structure Called (c : Ctx) (w3 : World) (S : List Nat) (steps : Nat) (s : St) (vw vs : Value) (sh : List Int) (ao : Option Addr) (cap : Nat) (ps : List Value) (vals : List Val) : Prop where
  mch : Mch c w3 S (steps + 1) s vw vs sh
  ptrs : Ptrs w3 ao ps
  rv : RVals c.f.funs.length (memB S w3) ps vals
theorem ptrs_of {w : World} {base : Nat} {e : TypeId} {ao : Option Addr} {n cap : Nat} {ps : List Value} (h : w.ownsRow base e 1 (.slice ao n cap) n ps) : Ptrs w ao ps := by
  intro h0
  rcases h.2 with ⟨h1, h2⟩ | ⟨g, cap', cur, hv, _⟩
  · have := h.1; omega
  · injection hv with e1 e2 e3
    subst e1
    refine ⟨g, 0, rfl, fun j p hj => ?_⟩
    have := h.cells rfl j p hj
    rw [show (⟨g, 0, none⟩ : Addr).add j = ⟨g, 0 + j, none⟩ from by cases j <;> simp [Addr.add]] at this
    exact this
/-- The way up to the test. -/
theorem funs_at {c : Ctx} (ok : c.Ok) {n : Int} (h0 : 0 ≤ n) (hn : n < c.f.funs.length) : ∃ (i : Nat) (hi : i < c.f.funs.length), n = i ∧ funAt c.f n = c.f.funs[i] ∧ ∃ b o pb pc, c.Fb = some ⟨b, o, none⟩ ∧ c.f.funs.length ≤ c.Fc ∧ c.f.funs.length ≤ 140737488355328 ∧
    TmAt c.m0 b (o + i * 10 + 2) c.f.funs[i].2.2 ∧ ∀ w, Ag c.m0 w → w.cell? ⟨b, o + i * 10 + 1, none⟩ = some (.slice pb c.f.funs[i].2.1.length pc) := by
  obtain ⟨i, rfl⟩ : ∃ i : Nat, n = i := ⟨n.toNat, by omega⟩
  have hi : i < c.f.funs.length := by omega
  obtain ⟨fb, fcap, e, h1, h2, h3⟩ := ok.funs.opn
  cases e
  obtain ⟨b, o, pb, pc, h4, h5, _, h6⟩ := (h3.out i hi).tm
  refine ⟨i, hi, rfl, ?_, b, o, pb, pc, h4, h1, h2, h5, h6⟩
  unfold funAt
  simp [List.getD_eq_getElem?_getD, hi]
set_option maxRecDepth 100000 in
theorem call_go {c : Ctx} {w : World} {S : List Nat} {steps : Nat} {s : St} {vw vs : Value} {sh : List Int} {F V o i : Nat} {vl : List Int} {env : Env} (ok : c.Ok) (hM : Mch c w S steps s vw vs sh) (hF : Frm c w S F V o i vl env) (hS : ∀ k ∈ S, k < w.heap.size)
    {tb to : Nat} {t : Term} (hT : TmAt c.m0 tb to t) (hb : ∀ a ∈ t.args, Bound vl env a) (hlen : t.args.length ≤ 1000) (hpos : 0 < t.args.length) (hf : steps < c.fuel) (hok : callOk c.f (t.args.map (atomV env)) = true)
    (hmax : ∀ i (h : i < c.f.funs.length), (placesF c.f.funs[i]).length ≤ 1000000) :
    Calls Try.prog 54 #[.pointer (some ⟨c.M, 0, none⟩), .pointer (some ⟨tb, to, none⟩), .pointer (some ⟨F, 0, none⟩)] w fun e w' => ∃ F' V' o' i', ∃ hi : i' < c.f.funs.length, e = .returned (.pointer (some ⟨F', 0, none⟩)) ∧ Ext S w (F' :: V' :: S) w' ∧ (∀ k ∈ F' :: V' :: S, k < w'.heap.size) ∧
      Mch c w' (F' :: V' :: S) (steps + 1) s vw vs sh ∧ Frm c w' (F' :: V' :: S) F' V' o' i' (placesF c.f.funs[i']) (bindEnv c.f.funs[i'].2.1 (t.args.map (atomV env))) ∧ funAt c.f (headN (t.args.map (atomV env))) = c.f.funs[i'] ∧
      vw.ownBlock ≠ some F' ∧ vw.ownBlock ≠ some V' ∧ vs.ownBlock ≠ some F' ∧ vs.ownBlock ≠ some V' := by
  obtain ⟨tb', tc, ab, ac, fb, fc, nb, nc, O, hc⟩ := hT.opn
  have c0 := hM.c0
  have c6 := hM.c6
  have hL := later_cell w
  have ltM := hM.ltM
  have hfu := ok.fuelb
  have HLD := Lib.hid (load_later c0)
  have hne : ((steps : Int) == (c.fuel : Int)) = false := by rw [beq_eq_false_iff_ne]; omega
  have HM := Lib.hid hM
  have HF := Lib.hid hF
  have HS := Lib.hid hS
  have HB := Lib.hid hb
  have HC := Lib.hid hc
  have HA := Lib.hid O.args
  have HOK := Lib.hid ok
  clear hM hF hS hb hc O hT ok
  go_enter Try.func54, Try.ntmps54
  go_wp2_with fail
  refine wp_region_later (by kernel_rfl) (by kernel_rfl) ?_
  repeat (go_big_quiet_step ((go_at_call 26; exact HLD.out _)))
  refine wpQuiet_nil ?_
  intro w1 hw'
  obtain ⟨⟨wz, hb1⟩, hw''⟩ := hw'
  subst hw''
  have hM1 := HM.out.later hb1
  have m0 := hM1.c0
  have z0 := hM1.fz 0
  have HM1 := Lib.hid hM1
  clear hM1 hL c0 c6
  have hE1 : Hid (Ext S w S w1) := Lib.hid (Ext.below hb1)
  have HF1 := Lib.hid (HF.out.later hb1 (HF.out.ltV HS.out))
  have HS1 := Lib.hid (fun k (hk : k ∈ S) => Nat.lt_of_lt_of_le (HS.out k hk) hb1.size)
  clear HM HF HS HLD hb1 ltM
  have HADD : Hid (∀ w2, w2 = w1.setCell ⟨c.M, 0, none⟩ (.int .i64 ((steps : Int) + 1)) → Mch c w2 S (steps + 1) s vw vs sh ∧ Frm c w2 S F V o i vl env ∧ Ext S w1 S w2 ∧ w2.heap.size = w1.heap.size) := Lib.hid (fun w2 h => by
    subst h
    have h1 := HM1.out.setSteps HOK.out (steps + 1)
    have h2 := HF1.out.setM HM1.out.inS 0 (.int .i64 ((steps + 1 : Nat)))
    have h3 := kept_setCell HM1.out.inS w1 0 (.int .i64 ((steps + 1 : Nat)))
    rw [show (((steps + 1 : Nat)) : Int) = steps + 1 from by omega] at h1 h2 h3
    exact ⟨h1, h2, Ext.of h3, size_setCell _ _ _⟩)
  go_wp2_with (first | (go_at_call 53; refine (add_any m0 z0 (by omega) (by omega) (by omega)).mono ?_; rintro e w2 ⟨rfl, hw2⟩; obtain ⟨hM2, hF2, hE2, hz2⟩ := HADD.out w2 hw2; have hS2 := (fun k (hk : k ∈ S) => (by rw [hz2]; exact HS1.out k hk : k < w2.heap.size)); obtain ⟨_, _, _, _, _, q5, _, _⟩ := HC.out w2 (hM2.ag HOK.out); have HV2 := Lib.hid (vals_of HOK.out hM2 hF2 hS2 HB.out); have HM2 := Lib.hid hM2; have HS2 := Lib.hid hS2; have HE2 := Lib.hid hE2; clear hM2 hF2 hE2 hS2 hw2 m0 z0) |
    (go_at_call 67; refine (atoms_any HA.out (HM2.out.ag HOK.out) HV2.out hlen).mono ?_; rintro e w3 ⟨v, ps, rfl, hb3, hown3, hrv3⟩; obtain ⟨ao, cap, rfl⟩ := ownsRow_slice hown3))
  have hM3 := HM2.out.later hb3
  have HP3 := Lib.hid (ptrs_of hown3)
  have hpl : ps.length = t.args.length := by have := hrv3.1; simpa using this
  obtain ⟨g, og, rfl, hgc⟩ := HP3.out (by omega)
  have hp0 := List.getElem?_eq_getElem (l := ps) (i := 0) (by omega)
  have hv0 : (t.args.map (atomV env))[0]? = some ((t.args.map (atomV env))[0]'(by simpa using hpos)) := List.getElem?_eq_getElem _
  obtain ⟨v0, hv0⟩ : ∃ v0, (t.args.map (atomV env))[0]? = some v0 := ⟨_, hv0⟩
  have hr0 := hrv3.2 0 _ v0 hp0 hv0
  obtain ⟨vb, va, vc, ep, k0, k1, k2, _⟩ := rval_cells hr0
  have hcell0 := hgc 0 _ hp0
  rw [ep] at hcell0
  obtain ⟨_, _, _, _, _, _, hfun, _⟩ := hr0.open
  obtain ⟨vr, hvl⟩ : ∃ vr, t.args.map (atomV env) = v0 :: vr := by
    cases hh : t.args.map (atomV env) with
    | nil => rw [hh] at hv0; cases hv0
    | cons a r => rw [hh] at hv0; simp at hv0; exact ⟨r, by rw [hv0]⟩
  have hlv : (v0 :: vr).length = t.args.length := by rw [← hvl]; simp
  rw [hvl] at hok
  simp only [callOk, Bool.and_eq_true, beq_iff_eq] at hok
  obtain ⟨hk3, hpn⟩ := hok
  obtain ⟨h00, h01⟩ := hfun hk3
  obtain ⟨i', hi', en, efn, fb2, fo2, pb, pc, eFb, fcle, fnle, hTb, hpc⟩ := funs_at HOK.out h00 h01
  rw [efn] at hpn
  have c3 := hM3.c3
  have q1 := hpc w3 (hM3.ag HOK.out)
  rw [eFb] at c3
  rw [hk3] at k0
  rw [en] at k1
  have hpl2 : ((c.f.funs[i'].2.1.length : Int) == (t.args.length : Int)) = true := by rw [beq_iff_eq]; omega
  have hi0 : (0 : Int) ≤ (i' : Int) := by omega
  have hi1 : (i' : Int) < (c.f.funs.length : Int) := by omega
  have hpos0 : (0 : Int) < (t.args.length : Int) := by omega
  rw [Nat.add_zero] at hcell0
  have hS3 : ∀ k ∈ S, k < w3.heap.size := fun k hk => Nat.lt_of_lt_of_le (HS2.out k hk) hb3.size
  have HBG := Lib.hid (fun (wx : World) (hb : Below w3.heap.size w3 wx) => (show Calls Try.prog 52 #[.pointer (some ⟨c.M, 0, none⟩), .int .i64 i', .slice (some ⟨g, og, none⟩) t.args.length cap] wx _ from
    hpl ▸ begun_any HOK.out (hM3.later hb) hi' (ao := some ⟨g, og, none⟩) (cap := cap) (ps := ps) (vals := v0 :: vr) (fun _ => ⟨g, og, rfl, fun j p hj => (hb.cell (World.block_lt_of_cell? w3 _ (hgc j p hj))).trans (hgc j p hj)⟩) (by rw [← hvl]; exact hrv3.mono (Ext.below hb).mem) (by omega) (by omega) (hmax i' hi')))
  have HM3 := Lib.hid hM3
  have HE3 := Lib.hid ((hE1.out.trans HE2.out).trans (Ext.below hb3))
  have HS3 := Lib.hid hS3
  have HFN := Lib.hid efn
  have HVL := Lib.hid hvl
  clear hpc hr0 hfun hM3 hS3 hrv3 hgc hb3 hown3 HV2 HM2 HS2 HE2 HADD HM1 HF1 HS1 hE1 hTb hp0 ep hv0 efn hvl hlv hpn
  refine wp_region_quiet_tail 27 (by kernel_rfl) (by kernel_rfl) ?_
  simp only [List.take_succ_cons, List.take_zero, List.drop_succ_cons, List.drop_zero]
  repeat (go_big_quiet_step (fail))
  refine wpQuiet_nil ?_
  go_wp2_with (first | (go_at_call 68; refine (want_ok _).mono ?_; rintro e w4 ⟨rfl, rfl⟩) | (go_at_call 52; refine (HBG.out _ (Below.refl _ _).drew).mono ?_; rintro e w5 ⟨F', V', o', rfl, hb5, f1, f2, f3, f4, hF5⟩))
  go_ret
  have hb35 := (Below.refl w3.heap.size w3).drew.trans (hb5.mono (by simp))
  simp only [World.size_drew] at f1 f2
  have hE5 : Ext S w3 (F' :: V' :: S) w5 := ⟨Kept.below hb35, fun k hk => List.mem_cons_of_mem _ (List.mem_cons_of_mem _ hk), fun k hk => by
    rcases List.mem_cons.1 hk with rfl | hk
    · exact .inr f1
    · rcases List.mem_cons.1 hk with rfl | hk
      · exact .inr f2
      · exact .inl hk⟩
  have hrW : ∀ k, vw.ownBlock = some k → k < w3.heap.size := fun k h => HS3.out k (HM3.out.rowW k h)
  have hrS : ∀ k, vs.ownBlock = some k → k < w3.heap.size := fun k h => HS3.out k (HM3.out.rowS k h)
  refine ⟨F', V', o', i', hi', rfl, HE3.out.trans hE5, fun k hk => ?_, (HM3.out.later hb35).more hE5.sub (fun k hk => (hE5.new k hk).imp id (fun h => Nat.le_trans HM3.out.kept.size h)), ?_, ?_, fun h => by have := hrW _ h; omega, fun h => by have := hrW _ h; omega, fun h => by have := hrS _ h; omega, fun h => by have := hrS _ h; omega⟩
  · rcases List.mem_cons.1 hk with rfl | hk
    · exact f3
    · rcases List.mem_cons.1 hk with rfl | hk
      · exact f4
      · exact Nat.lt_of_lt_of_le (HS3.out k hk) hb35.size
  · rw [HVL.out]; exact hF5
  · rw [HVL.out]; exact HFN.out
set_option maxRecDepth 100000 in
theorem call_bad {c : Ctx} {w : World} {S : List Nat} {steps : Nat} {s : St} {vw vs : Value} {sh : List Int} {F V o i : Nat} {vl : List Int} {env : Env} (ok : c.Ok) (hM : Mch c w S steps s vw vs sh) (hF : Frm c w S F V o i vl env) (hS : ∀ k ∈ S, k < w.heap.size)
    {tb to : Nat} {t : Term} (hT : TmAt c.m0 tb to t) (hb : ∀ a ∈ t.args, Bound vl env a) (hlen : t.args.length ≤ 1000) (hpos : 0 < t.args.length) (hf : steps < c.fuel) (hok : callOk c.f (t.args.map (atomV env)) = false) :
    Calls Try.prog 54 #[.pointer (some ⟨c.M, 0, none⟩), .pointer (some ⟨tb, to, none⟩), .pointer (some ⟨F, 0, none⟩)] w fun e w' => e = thrown true 0 ∧ Ext S w S w' ∧ Mch c w' S (steps + 1) s vw vs sh := by
  obtain ⟨tb', tc, ab, ac, fb, fc, nb, nc, O, hc⟩ := hT.opn
  have c0 := hM.c0
  have c6 := hM.c6
  have hL := later_cell w
  have ltM := hM.ltM
  have hfu := ok.fuelb
  have HLD := Lib.hid (load_later c0)
  have hne : ((steps : Int) == (c.fuel : Int)) = false := by rw [beq_eq_false_iff_ne]; omega
  have HM := Lib.hid hM
  have HF := Lib.hid hF
  have HS := Lib.hid hS
  have HB := Lib.hid hb
  have HC := Lib.hid hc
  have HA := Lib.hid O.args
  have HOK := Lib.hid ok
  clear hM hF hS hb hc O hT ok
  go_enter Try.func54, Try.ntmps54
  go_wp2_with fail
  refine wp_region_later (by kernel_rfl) (by kernel_rfl) ?_
  repeat (go_big_quiet_step ((go_at_call 26; exact HLD.out _)))
  refine wpQuiet_nil ?_
  intro w1 hw'
  obtain ⟨⟨wz, hb1⟩, hw''⟩ := hw'
  subst hw''
  have hM1 := HM.out.later hb1
  have m0 := hM1.c0
  have z0 := hM1.fz 0
  have HM1 := Lib.hid hM1
  clear hM1 hL c0 c6
  have hE1 : Hid (Ext S w S w1) := Lib.hid (Ext.below hb1)
  have HF1 := Lib.hid (HF.out.later hb1 (HF.out.ltV HS.out))
  have HS1 := Lib.hid (fun k (hk : k ∈ S) => Nat.lt_of_lt_of_le (HS.out k hk) hb1.size)
  clear HM HF HS HLD hb1 ltM
  have HADD : Hid (∀ w2, w2 = w1.setCell ⟨c.M, 0, none⟩ (.int .i64 ((steps : Int) + 1)) → Mch c w2 S (steps + 1) s vw vs sh ∧ Frm c w2 S F V o i vl env ∧ Ext S w1 S w2 ∧ w2.heap.size = w1.heap.size) := Lib.hid (fun w2 h => by
    subst h
    have h1 := HM1.out.setSteps HOK.out (steps + 1)
    have h2 := HF1.out.setM HM1.out.inS 0 (.int .i64 ((steps + 1 : Nat)))
    have h3 := kept_setCell HM1.out.inS w1 0 (.int .i64 ((steps + 1 : Nat)))
    rw [show (((steps + 1 : Nat)) : Int) = steps + 1 from by omega] at h1 h2 h3
    exact ⟨h1, h2, Ext.of h3, size_setCell _ _ _⟩)
  go_wp2_with (first | (go_at_call 53; refine (add_any m0 z0 (by omega) (by omega) (by omega)).mono ?_; rintro e w2 ⟨rfl, hw2⟩; obtain ⟨hM2, hF2, hE2, hz2⟩ := HADD.out w2 hw2; have hS2 := (fun k (hk : k ∈ S) => (by rw [hz2]; exact HS1.out k hk : k < w2.heap.size)); obtain ⟨_, _, _, _, _, q5, _, _⟩ := HC.out w2 (hM2.ag HOK.out); have HV2 := Lib.hid (vals_of HOK.out hM2 hF2 hS2 HB.out); have HM2 := Lib.hid hM2; have HS2 := Lib.hid hS2; have HE2 := Lib.hid hE2; clear hM2 hF2 hE2 hS2 hw2 m0 z0) |
    (go_at_call 67; refine (atoms_any HA.out (HM2.out.ag HOK.out) HV2.out hlen).mono ?_; rintro e w3 ⟨v, ps, rfl, hb3, hown3, hrv3⟩; obtain ⟨ao, cap, rfl⟩ := ownsRow_slice hown3))
  have hM3 := HM2.out.later hb3
  have HP3 := Lib.hid (ptrs_of hown3)
  have hpl : ps.length = t.args.length := by have := hrv3.1; simpa using this
  obtain ⟨g, og, rfl, hgc⟩ := HP3.out (by omega)
  have hp0 := List.getElem?_eq_getElem (l := ps) (i := 0) (by omega)
  have hv0 : (t.args.map (atomV env))[0]? = some ((t.args.map (atomV env))[0]'(by simpa using hpos)) := List.getElem?_eq_getElem _
  obtain ⟨v0, hv0⟩ : ∃ v0, (t.args.map (atomV env))[0]? = some v0 := ⟨_, hv0⟩
  have hr0 := hrv3.2 0 _ v0 hp0 hv0
  obtain ⟨vb, va, vc, ep, k0, k1, k2, _⟩ := rval_cells hr0
  have hcell0 := hgc 0 _ hp0
  rw [ep] at hcell0
  obtain ⟨_, _, _, _, _, _, hfun, _⟩ := hr0.open
  obtain ⟨vr, hvl⟩ : ∃ vr, t.args.map (atomV env) = v0 :: vr := by
    cases hh : t.args.map (atomV env) with
    | nil => rw [hh] at hv0; cases hv0
    | cons a r => rw [hh] at hv0; simp at hv0; exact ⟨r, by rw [hv0]⟩
  have hlv : (v0 :: vr).length = t.args.length := by rw [← hvl]; simp
  rw [hvl] at hok
  have hM3' := HM2.out.later hb3
  have HE3 := Lib.hid ((hE1.out.trans HE2.out).trans (Ext.below hb3))
  have HM3 := Lib.hid hM3'
  rw [Nat.add_zero] at hcell0
  have c3 := hM3.c3
  have hpos0 : (0 : Int) < (t.args.length : Int) := by omega
  by_cases hk3 : v0.kind = 3
  · obtain ⟨h00, h01⟩ := hfun hk3
    obtain ⟨i', hi', en, efn, fb2, fo2, pb, pc, eFb, fcle, fnle, hTb, hpc⟩ := funs_at HOK.out h00 h01
    have hpn : ¬ c.f.funs[i'].2.1.length = t.args.length := by
      intro h
      simp only [callOk, hk3, efn, h] at hok
      rw [← hlv] at hok
      simp at hok
    have q1 := hpc w3 (hM3.ag HOK.out)
    rw [eFb] at c3
    rw [hk3] at k0
    rw [en] at k1
    have hpl2 : ((c.f.funs[i'].2.1.length : Int) == (t.args.length : Int)) = false := by rw [beq_eq_false_iff_ne]; omega
    have hi0 : (0 : Int) ≤ (i' : Int) := by omega
    have hi1 : (i' : Int) < (c.f.funs.length : Int) := by omega
    clear hpc hr0 hfun hM3 hM3' hrv3 hgc hb3 hown3 HV2 HM2 HS2 HE2 HADD HM1 HF1 HS1 hE1 hTb hp0 ep hv0 efn hvl hlv hpn
    refine wp_region_quiet_tail 27 (by kernel_rfl) (by kernel_rfl) ?_
    simp only [List.take_succ_cons, List.take_zero, List.drop_succ_cons, List.drop_zero]
    repeat (go_big_quiet_step (fail))
    refine wpQuiet_nil ?_
    go_wp2_with (go_at_call 68; refine (want_no _).mono ?_; rintro e w4 ⟨rfl, rfl⟩)
    exact ⟨rfl, rfl, HE3.out.trans (Ext.below (Below.refl _ _).drew), HM3.out.drew⟩
  · have hk3' : (v0.kind == 3) = false := by rw [beq_eq_false_iff_ne]; exact hk3
    clear hr0 hfun hM3 hM3' hrv3 hgc hb3 hown3 HV2 HM2 HS2 HE2 HADD HM1 HF1 HS1 hE1 hp0 ep hv0 hvl hlv hok hk3
    refine wp_region_quiet_tail 27 (by kernel_rfl) (by kernel_rfl) ?_
    simp only [List.take_succ_cons, List.take_zero, List.drop_succ_cons, List.drop_zero]
    repeat (go_big_quiet_step (fail))
    refine wpQuiet_nil ?_
    go_wp2_with (go_at_call 68; refine (want_no _).mono ?_; rintro e w4 ⟨rfl, rfl⟩)
    exact ⟨rfl, rfl, HE3.out.trans (Ext.below (Below.refl _ _).drew), HM3.out.drew⟩
end Go.Proofs.Ytjcgoohmhbgkiaa
set_option linter.all false
set_option linter.all false
namespace Go.Proofs.Ytjcgoohmhbgkiaa
open Go.RowKit
set_option maxHeartbeats 800000

/-- The frame's blocks are none of what is told. -/
def Sep (vw vs : Value) (F V : Nat) : Prop := vw.ownBlock ≠ some F ∧ vw.ownBlock ≠ some V ∧ vs.ownBlock ≠ some F ∧ vs.ownBlock ≠ some V
section
variable {c : Ctx} {w w' : World} {S : List Nat} {steps : Nat} {s : St} {vw vs : Value} {sh : List Int} {F V o i : Nat} {vl : List Int} {env : Env}
theorem Mch.setSlot (h : Mch c w S steps s vw vs sh) (hV : V ∈ S) (hne : V ≠ c.M) (h1 : vw.ownBlock ≠ some V) (h2 : vs.ownBlock ≠ some V) (k : Nat) (p : Value) : Mch c (w.setCell ⟨V, k, none⟩ p) S steps s vw vs sh := by
  have hk2 := kept_setCell hV w k p
  have ho : ∀ j, (w.setCell ⟨V, k, none⟩ p).cell? ⟨c.M, j, none⟩ = w.cell? ⟨c.M, j, none⟩ := fun j => World.cell?_setCell_other _ _ _ _ (fun e => hne (congrArg Addr.block e))
  have hkM : Kept [c.M] c.w1 (w.setCell ⟨V, k, none⟩ p) := by
    refine ⟨hk2.os.trans h.kept.os, hk2.tape.trans h.kept.tape, hk2.output.trans h.kept.output, Nat.le_trans h.kept.size hk2.size, fun k hk hs => (hk2.block k (Nat.lt_of_lt_of_le hk h.kept.size) (fun hm => ?_)).trans (h.kept.block k hk hs)⟩
    rcases h.newS k hm with e | e
    · exact hs (by simp [e])
    · omega
  exact ⟨hkM, h.inS, h.newS, (ho 0).trans h.c0, (ho 1).trans h.c1, (ho 2).trans h.c2, (ho 3).trans h.c3, (ho 4).trans h.c4, (ho 5).trans h.c5, (ho 6).trans h.c6, (ho 7).trans h.c7, (ho 8).trans h.c8, fun j => by rw [World.frozen?_setCell]; exact h.fz j,
    ownsRow_setCell_other h.ownW h1 _, ownsRow_setCell_other h.ownS h2 _, h.rowW, h.rowS, h.sep, h.i64W, h.i64S, h.lenW, h.lenS⟩
theorem Frm.setSlot (h : Frm c w S F V o i vl env) (hnd : vl.Nodup) {j : Nat} {x : Int} (hj : vl[j]? = some x) {p : Value} {v : Val} (hp : RVal c.f.funs.length (memB S w) p v) : Frm c (w.setCell ⟨V, o + j, none⟩ p) S F V o i vl (upd env x v) := by
  obtain ⟨hjl, hjx⟩ := List.getElem?_eq_some_iff.1 hj
  have hm := (Ext.of (kept_setCell h.inV w (o + j) p)).mem
  have h0 : (⟨V, o + j, none⟩ : Addr) ≠ ⟨F, 0, none⟩ := by
    rcases h.out with h1 | ⟨h1, _⟩
    · exact fun e => h1 (congrArg Addr.block e)
    · intro e
      have h2 : o + j = 0 := congrArg Addr.off e
      omega
  have h25 : (⟨V, o + j, none⟩ : Addr) ≠ ⟨F, 25, none⟩ := by
    rcases h.out with h1 | ⟨h1, h2⟩
    · exact fun e => h1 (congrArg Addr.block e)
    · intro e
      have h3 : o + j = 25 := congrArg Addr.off e
      omega
  refine ⟨h.hi, h.vsEq, (World.cell?_setCell_other _ _ _ _ h0).trans h.c0, (World.cell?_setCell_other _ _ _ _ h25).trans h.cv, h.inF, h.inV, h.neF, h.neV, fun j' x' hj' => ?_, fun j => by rw [World.frozen?_setCell]; exact h.fz j, h.out, h.len⟩
  obtain ⟨q, h1, h2⟩ := h.slot j' x' hj'
  by_cases e : j' = j
  · subst e
    rw [hj] at hj'
    injection hj' with hj'
    subst hj'
    refine ⟨p, World.cell?_setCell_same _ _ _ h1, ?_⟩
    unfold upd
    rw [if_pos rfl]
    exact hp.mono hm
  · refine ⟨q, (World.cell?_setCell_other _ _ _ _ (fun e' => e (by have h3 : o + j = o + j' := congrArg Addr.off e'; omega))).trans h1, ?_⟩
    obtain ⟨hjl', hjx'⟩ := List.getElem?_eq_some_iff.1 hj'
    have hx : ¬ x' = x := fun ex => by
      have hp := List.pairwise_iff_getElem.1 hnd
      rcases Nat.lt_or_gt_of_ne e with h3 | h3
      · exact hp _ _ hjl' hjl h3 (by rw [hjx, hjx', ex])
      · exact hp _ _ hjl hjl' h3 (by rw [hjx, hjx', ex])
    unfold upd
    rw [if_neg hx]
    exact h2.mono hm
end
/-- What stands ahead of a term. -/
structure DoesIn (c : Ctx) (w : World) (S : List Nat) (steps : Nat) (s : St) (vw vs : Value) (sh : List Int) (F V o i : Nat) (vl : List Int) (env : Env) (tb to : Nat) (t : Term) : Prop where
  ok : c.Ok
  hM : Mch c w S steps s vw vs sh
  hF : Frm c w S F V o i vl env
  hS : ∀ k ∈ S, k < w.heap.size
  sep : Sep vw vs F V
  hT : TmAt c.m0 tb to t
  hb : ∀ a ∈ t.args, Bound vl env a
  nd : vl.Nodup
  hx : bindsB t.kind = true → ∃ j : Nat, vl[j]? = some t.x
  fm : formedB c.f.funs.length c.f.main t = true
  hmade : s.made ≤ 1000000000000000000
theorem Kept.wider {S S' : List Nat} {a b : World} (h : Kept S a b) (hs : ∀ k ∈ S, k ∈ S') : Kept S' a b := ⟨h.os, h.tape, h.output, h.size, fun k hk hn => h.block k hk (fun hm => hn (hs k hm))⟩
theorem DoesIn.neV {c : Ctx} {w : World} {S : List Nat} {steps : Nat} {s : St} {vw vs : Value} {sh : List Int} {F V o i : Nat} {vl : List Int} {env : Env} {tb to : Nat} {t : Term} (D : DoesIn c w S steps s vw vs sh F V o i vl env tb to t) : ¬ V = tb := by
  obtain ⟨_, _, _, _, _, _, _, _, _, h⟩ := D.hT
  have h1 := World.block_lt_of_cell? c.w1 ⟨tb, to, none⟩ (h c.w1 D.ok.ag).1
  rcases D.hM.newS V D.hF.inV with e | e
  · exact absurd e D.hF.neV
  · intro e'
    have h2 : tb < c.w1.heap.size := h1
    omega
/-- What a term that is done leaves. -/
def DoesPost (c : Ctx) (S : List Nat) (w : World) (steps : Nat) (vs : Value) (sh : List Int) (F V o i : Nat) (vl : List Int) (t : Term) (r : SOut) (e : Ending) (w' : World) : Prop := match r with
  | .next j e' s' => ∃ b' o', e = .returned (.pointer (some ⟨b', o', none⟩)) ∧ (∃ hj : j < t.next.length, TmAt c.m0 b' o' t.next[j]) ∧ ∃ S' vw', Ext S w S' w' ∧ (∀ k ∈ S', k < w'.heap.size) ∧ Mch c w' S' steps s' vw' vs sh ∧ Frm c w' S' F V o i vl e' ∧ Sep vw' vs F V
  | .stop st en shows s' => e = thrown st en ∧ ∃ S' vw' vs' sh', Ext S w S' w' ∧ Mch c w' S' steps s' vw' vs' sh' ∧ (st = false → en = 1 → sh' = shows)
  | .call _ _ => False
theorem next_at {c : Ctx} {tb to : Nat} {t : Term} (hT : TmAt c.m0 tb to t) : ∃ ab ac nb nc, RAtoms c.m0 (.slice ab t.args.length ac) t.args ∧ t.args.length ≤ ac ∧ t.next.length ≤ nc ∧ t.next.length ≤ 140737488355328 ∧ (∀ j (hj : j < t.next.length), ∃ b o, nb = some ⟨b, o, none⟩ ∧ TmAt c.m0 b (o + j * 8) t.next[j]) ∧
    ∀ w, Ag c.m0 w → w.cell? ⟨tb, to, none⟩ = some (.int .i64 t.kind) ∧ w.cell? ⟨tb, to + 1, none⟩ = some (.int .i64 t.x) ∧ w.cell? ⟨tb, to + 2, none⟩ = some (.int .i64 t.n) ∧ w.cell? ⟨tb, to + 5, none⟩ = some (.slice ab t.args.length ac) ∧ w.cell? ⟨tb, to + 7, none⟩ = some (.slice nb t.next.length nc) := by
  obtain ⟨tb', tc, ab, ac, fb, fc, nb, nc, O, hc⟩ := hT.opn
  have ha := O.args
  obtain ⟨⟨base, cap, hv, h1, _⟩, _⟩ := id ha
  injection hv with e1 e2 e3
  subst e3
  exact ⟨ab, ac, nb, nc, ha, h1, O.nle, O.nbd, fun j hj => (O.nextAt j hj).tm, fun w hw => by obtain ⟨q0, q1, q2, q3, q4, q5, q6, q7⟩ := hc w hw; exact ⟨q0, q1, q2, q5, q7⟩⟩
set_option maxRecDepth 100000 in
theorem does_con {c : Ctx} {w : World} {S : List Nat} {steps : Nat} {s : St} {vw vs : Value} {sh : List Int} {F V o i : Nat} {vl : List Int} {env : Env} {tb to : Nat} {t : Term} (D : DoesIn c w S steps s vw vs sh F V o i vl env tb to t) (hk : t.kind = 2) :
    Calls Try.prog 55 #[.pointer (some ⟨c.M, 0, none⟩), .pointer (some ⟨tb, to, none⟩), .pointer (some ⟨F, 0, none⟩)] w (DoesPost c S w steps vs sh F V o i vl t (stepT t env s)) := by
  have hfm := D.fm
  rw [formedB_2 hk] at hfm
  obtain ⟨_, _, _, hal, hnl, hn0, hn1⟩ := of_decide_eq_true hfm
  have hst : stepT t env s = .next 0 (upd env t.x (.mk 2 t.n (t.args.map (atomV env)))) { s with made := s.made + (t.args.length + 1) } := by simp [stepT, hk]
  rw [hst]
  obtain ⟨j, hj⟩ := D.hx (by rw [hk]; rfl)
  obtain ⟨ab, ac, nb, nc, HA, hac, hnc, hnb, hnx, hc⟩ := next_at D.hT
  obtain ⟨nbb, nbo, rfl, hT0⟩ := hnx 0 (by omega)
  obtain ⟨q0, q1, q2, q5, q7⟩ := hc w (D.hM.ag D.ok)
  have HAT := Lib.hid (at_var D.ok D.hM D.hF hj)
  have hn64 : I64 t.n := ⟨by omega, by omega⟩
  have HOB := Lib.hid (fun (wx : World) (hb : Below w.heap.size w wx) => object_any D.ok (D.hM.later hb) (D.hF.later hb (D.hF.ltV D.hS)) (fun k hk => Nat.lt_of_lt_of_le (D.hS k hk) hb.size) D.hT D.hb (by omega) D.hmade (k := 2) ⟨by omega, by omega⟩ hn64 (by omega))
  have HD := Lib.hid D
  have hne := D.neV
  have HC := Lib.hid hc
  have HT0 := Lib.hid hT0
  rw [hk] at q0
  have hnl' : (0 : Int) < (t.next.length : Int) := by omega
  clear D hfm hst hc hnx hT0 hk HA
  go_enter Try.func55, Try.ntmps55
  go_wp2_with (first | (go_at_call 71; refine (HAT.out _ (Below.refl _ _)).mono ?_; rintro e w1 ⟨rfl, hb1⟩) |
    (go_at_call 72; refine (HOB.out _ hb1).mono ?_; rintro e w2 ⟨p, rfl, hk2, hr2, hM2, hF2⟩; obtain ⟨pb, rfl⟩ := rval_ptr hr2; obtain ⟨q, s1, s2⟩ := hF2.slot j _ hj; have z2 := hF2.fz (o + j); obtain ⟨r0, r1, r2, r5, r7⟩ := HC.out w2 (hM2.ag HD.out.ok)))
  go_ret
  have hE := ((Ext.below hb1 (S := S)).trans (Ext.of (hk2.wider (by intro k hk; simp at hk; subst hk; exact hM2.inS)))).trans (Ext.of (kept_setCell hF2.inV w2 (o + j) (.pointer (some ⟨pb, 0, none⟩))))
  exact ⟨nbb, nbo, rfl, ⟨by omega, by have := HT0.out; simpa using this⟩, S, vw, hE, fun k hk => Nat.lt_of_lt_of_le (HD.out.hS k hk) hE.kept.size, hM2.setSlot hF2.inV hF2.neV HD.out.sep.2.1 HD.out.sep.2.2.2 _ _, hF2.setSlot HD.out.nd hj hr2, HD.out.sep⟩
end Go.Proofs.Ytjcgoohmhbgkiaa
