/- The machine: what a term does. Operations. -/
import Derived.Test.YtjcgoohmhbgkiaaProg
import Derived.Test.YtjcgoohmhbgkiaaFlN
set_option linter.all false
set_option linter.all false
set_option linter.all false
namespace Go.Proofs.Ytjcgoohmhbgkiaa
open Go.RowKit
set_option maxHeartbeats 1600000

theorem arg1_eq {e : Env} {t : Term} (h : 1 < t.args.length) : arg1 e t = atomV e t.args[1] := by
  unfold arg1; simp [List.getD_eq_getElem?_getD, h]
theorem atm_at1 {m : Mp} {b o : Nat} {ac : Nat} {l : List Atm} (h : RAtoms m (.slice (some ⟨b, o, none⟩) l.length ac) l) (h0 : 1 < l.length) : ∀ w, Ag m w → w.cell? ⟨b, o + 2, none⟩ = some (.bool l[1].var) ∧ w.cell? ⟨b, o + 3, none⟩ = some (.int .i64 l[1].n) := by
  obtain ⟨b', o', e, _, _, hc⟩ := atms_at h 1 h0
  cases e
  exact fun w hw => by simpa using hc w hw
set_option maxRecDepth 100000 in
theorem does_prim_no0 {c : Ctx} {w : World} {S : List Nat} {steps : Nat} {s : St} {vw vs : Value} {sh : List Int} {F V o i : Nat} {vl : List Int} {env : Env} {tb to : Nat} {t : Term} (D : DoesIn c w S steps s vw vs sh F V o i vl env tb to t) (hk : t.kind = 1) (hv0 : ¬ (atomV env (t.args.getD 0 atm0)).kind = 1) (hv1 : (atomV env (t.args.getD 1 atm0)).kind = 1) :
    Calls Try.prog 55 #[.pointer (some ⟨c.M, 0, none⟩), .pointer (some ⟨tb, to, none⟩), .pointer (some ⟨F, 0, none⟩)] w (DoesPost c S w steps vs sh F V o i vl t (stepT t env s)) := by
  have hfm := D.fm
  rw [formedB_1 hk] at hfm
  obtain ⟨_, _, _, hal, hnl, hn0, hn1⟩ := of_decide_eq_true hfm
  have ha0 : 0 < t.args.length := by omega
  have ha1 : 1 < t.args.length := by omega
  have hnl0 : 0 < t.next.length := by omega
  obtain ⟨j, hj⟩ := D.hx (by rw [hk]; rfl)
  obtain ⟨ab, ac, nb, nc, HA, hac, hnc, hnb, hnx, hc⟩ := next_at D.hT
  obtain ⟨nbb, nbo, rfl, hT0⟩ := hnx 0 hnl0
  obtain ⟨q0, q1, q2, q5, q7⟩ := hc w (D.hM.ag D.ok)
  obtain ⟨ab1, ao1, rfl, hca⟩ := atm_at HA ha0
  have hcb := atm_at1 HA ha1
  obtain ⟨a0, a1⟩ := hca w (D.hM.ag D.ok)
  obtain ⟨a2, a3⟩ := hcb w (D.hM.ag D.ok)
  have HAX : ∀ a ∈ t.args, ∀ wx, Below w.heap.size w wx → AtomAt c wx S F a (atomV env a) := fun a ha wx hb => atomAt D.ok (D.hM.later hb) (D.hF.later hb (D.hF.ltV D.hS)) (fun k hk => Nat.lt_of_lt_of_le (D.hS k hk) hb.size) a (D.hb a ha)
  have HAT := Lib.hid (at_var D.ok D.hM D.hF hj)
  obtain ⟨qv, sl, _⟩ := D.hF.slot j _ hj
  have hne := D.neV
  have hne2 : ¬ V = ab1 := atm_lt D.ok (D.hM.newS V D.hF.inV) D.hF.neV (hca c.w1 D.ok.ag).1
  have hne3 : ¬ tb = V := fun e => hne e.symm
  have hne4 : ¬ ab1 = V := fun e => hne2 e.symm
  have HK : Hid (∀ w', Below w.heap.size w w' → w'.cell? ⟨tb, to + 1, none⟩ = some (.int .i64 t.x) ∧ w'.cell? ⟨tb, to + 2, none⟩ = some (.int .i64 t.n) ∧ w'.cell? ⟨tb, to + 5, none⟩ = some (.slice (some ⟨ab1, ao1, none⟩) t.args.length ac) ∧ w'.cell? ⟨tb, to + 7, none⟩ = some (.slice (some ⟨nbb, nbo, none⟩) t.next.length nc) ∧ w'.cell? ⟨ab1, ao1, none⟩ = some (.bool t.args[0].var) ∧ w'.cell? ⟨ab1, ao1 + 1, none⟩ = some (.int .i64 t.args[0].n) ∧ w'.cell? ⟨ab1, ao1 + 2, none⟩ = some (.bool t.args[1].var) ∧ w'.cell? ⟨ab1, ao1 + 3, none⟩ = some (.int .i64 t.args[1].n) ∧ w'.cell? ⟨V, o + j, none⟩ = some qv ∧ w'.frozen? ⟨V, o + j, none⟩ = false) := Lib.hid (fun w' hb => by
    obtain ⟨x0, x1, x2, x5, x7⟩ := hc w' ((D.hM.later hb).ag D.ok)
    obtain ⟨y0, y1⟩ := hca w' ((D.hM.later hb).ag D.ok)
    obtain ⟨y2, y3⟩ := hcb w' ((D.hM.later hb).ag D.ok)
    exact ⟨x1, x2, x5, x7, y0, y1, y2, y3, (hb.cell (D.hF.ltV D.hS)).trans sl, (D.hF.later hb (D.hF.ltV D.hS)).fz _⟩)
  have hst := stepT_1 hk env s
  rw [arg0_eq ha0, arg1_eq ha1] at hst
  rw [hst]
  rw [hk] at q0
  have hal' : (0 : Int) < (t.args.length : Int) := by omega
  have hal1 : (1 : Int) < (t.args.length : Int) := by omega
  have hnl' : (0 : Int) < (t.next.length : Int) := by omega
  have m0 := List.getElem_mem ha0
  have m1 := List.getElem_mem ha1
  have HSTK := Lib.hid (fun (wz : World) (hb : Below w.heap.size w wz) => (show DoesPost c S w steps vs sh F V o i vl t (.stop true 0 [] s) (thrown true 0) wz from ⟨rfl, S, vw, vs, sh, Ext.below hb, D.hM.later hb, fun h => by cases h⟩))
  have HDIV := Lib.hid (fun (wz : World) (hb : Below w.heap.size w wz) => (show DoesPost c S w steps vs sh F V o i vl t (.stop false 2 [] s) (thrown false 2) wz from ⟨rfl, S, vw, vs, sh, Ext.below hb, D.hM.later hb, fun _ h => by omega⟩))
  rw [if_neg (by
    intro h
    rw [← arg0_eq ha0, ← arg1_eq ha1] at h
    first | exact hv0 h.1 | exact hv1 h.2)]
  rw [getD_arg ha0] at hv0
  rw [show atomV env (t.args.getD 1 atm0) = atomV env t.args[1] from arg1_eq ha1] at hv1
  have HN0 := Lib.hid (fun (wx : World) (hb : Below w.heap.size w wx) => number_no (HAX _ m0 wx hb) hv0)
  have HN1 := Lib.hid (fun (wx : World) (hb : Below w.heap.size w wx) => number_ok (HAX _ m1 wx hb) hv1)
  clear D hfm hst hc hnx hT0 hk HA hca hcb HAX m0 m1
  have ltb := World.block_lt_of_cell? w ⟨tb, to + 5, none⟩ q5
  have lta := World.block_lt_of_cell? w ⟨ab1, ao1, none⟩ a0
  generalize t.args[0] = A0 at *
  generalize t.args[1] = A1 at *
  go_enter Try.func55, Try.ntmps55
  go_wp2_with fail
  go_region_held2 (fun wx => wx.cell? ⟨tb, to + 5, none⟩ = some (.slice (some ⟨ab1, ao1, none⟩) t.args.length ac) ∧ wx.cell? ⟨ab1, ao1, none⟩ = some (.bool A0.var) ∧ wx.cell? ⟨ab1, ao1 + 1, none⟩ = some (.int .i64 A0.n) ∧ wx.cell? ⟨ab1, ao1 + 2, none⟩ = some (.bool A1.var) ∧ wx.cell? ⟨ab1, ao1 + 3, none⟩ = some (.int .i64 A1.n)) (first | exact hf.out.elim | go_keep)
    (first | (go_at_call_of 69 A0; refine Calls.dies (HN0.out _ (by first | assumption | exact (Below.refl _ _).drew)) (fun e w' h => ?_) (.int .i64 0) w.drew (fun hf => ?_); (obtain ⟨rfl, hb9⟩ := h; exact ⟨rfl, HSTK.out _ (bgo (by first | assumption | exact (Below.refl _ _).drew) hb9)⟩); obtain ⟨y1, y2, y5, y7, z0, z1, z2, z3, zs, zz⟩ := HK.out w.drew (Below.refl _ _).drew) | (go_at_call_of 69 A1; refine (HN1.out _ (by first | assumption | exact (Below.refl _ _).drew)).mono ?_; rintro e w1 ⟨rfl, hb1⟩; have hW1 : Below w.heap.size w w1 := bgo (by first | assumption | exact (Below.refl _ _).drew) hb1; obtain ⟨y1, y2, y5, y7, z0, z1, z2, z3, zs, zz⟩ := HK.out w1 hW1))
  all_goals exact hf.out.elim
set_option maxRecDepth 100000 in
theorem does_prim_no1 {c : Ctx} {w : World} {S : List Nat} {steps : Nat} {s : St} {vw vs : Value} {sh : List Int} {F V o i : Nat} {vl : List Int} {env : Env} {tb to : Nat} {t : Term} (D : DoesIn c w S steps s vw vs sh F V o i vl env tb to t) (hk : t.kind = 1) (hv0 : (atomV env (t.args.getD 0 atm0)).kind = 1) (hv1 : ¬ (atomV env (t.args.getD 1 atm0)).kind = 1) :
    Calls Try.prog 55 #[.pointer (some ⟨c.M, 0, none⟩), .pointer (some ⟨tb, to, none⟩), .pointer (some ⟨F, 0, none⟩)] w (DoesPost c S w steps vs sh F V o i vl t (stepT t env s)) := by
  have hfm := D.fm
  rw [formedB_1 hk] at hfm
  obtain ⟨_, _, _, hal, hnl, hn0, hn1⟩ := of_decide_eq_true hfm
  have ha0 : 0 < t.args.length := by omega
  have ha1 : 1 < t.args.length := by omega
  have hnl0 : 0 < t.next.length := by omega
  obtain ⟨j, hj⟩ := D.hx (by rw [hk]; rfl)
  obtain ⟨ab, ac, nb, nc, HA, hac, hnc, hnb, hnx, hc⟩ := next_at D.hT
  obtain ⟨nbb, nbo, rfl, hT0⟩ := hnx 0 hnl0
  obtain ⟨q0, q1, q2, q5, q7⟩ := hc w (D.hM.ag D.ok)
  obtain ⟨ab1, ao1, rfl, hca⟩ := atm_at HA ha0
  have hcb := atm_at1 HA ha1
  obtain ⟨a0, a1⟩ := hca w (D.hM.ag D.ok)
  obtain ⟨a2, a3⟩ := hcb w (D.hM.ag D.ok)
  have HAX : ∀ a ∈ t.args, ∀ wx, Below w.heap.size w wx → AtomAt c wx S F a (atomV env a) := fun a ha wx hb => atomAt D.ok (D.hM.later hb) (D.hF.later hb (D.hF.ltV D.hS)) (fun k hk => Nat.lt_of_lt_of_le (D.hS k hk) hb.size) a (D.hb a ha)
  have HAT := Lib.hid (at_var D.ok D.hM D.hF hj)
  obtain ⟨qv, sl, _⟩ := D.hF.slot j _ hj
  have hne := D.neV
  have hne2 : ¬ V = ab1 := atm_lt D.ok (D.hM.newS V D.hF.inV) D.hF.neV (hca c.w1 D.ok.ag).1
  have hne3 : ¬ tb = V := fun e => hne e.symm
  have hne4 : ¬ ab1 = V := fun e => hne2 e.symm
  have HK : Hid (∀ w', Below w.heap.size w w' → w'.cell? ⟨tb, to + 1, none⟩ = some (.int .i64 t.x) ∧ w'.cell? ⟨tb, to + 2, none⟩ = some (.int .i64 t.n) ∧ w'.cell? ⟨tb, to + 5, none⟩ = some (.slice (some ⟨ab1, ao1, none⟩) t.args.length ac) ∧ w'.cell? ⟨tb, to + 7, none⟩ = some (.slice (some ⟨nbb, nbo, none⟩) t.next.length nc) ∧ w'.cell? ⟨ab1, ao1, none⟩ = some (.bool t.args[0].var) ∧ w'.cell? ⟨ab1, ao1 + 1, none⟩ = some (.int .i64 t.args[0].n) ∧ w'.cell? ⟨ab1, ao1 + 2, none⟩ = some (.bool t.args[1].var) ∧ w'.cell? ⟨ab1, ao1 + 3, none⟩ = some (.int .i64 t.args[1].n) ∧ w'.cell? ⟨V, o + j, none⟩ = some qv ∧ w'.frozen? ⟨V, o + j, none⟩ = false) := Lib.hid (fun w' hb => by
    obtain ⟨x0, x1, x2, x5, x7⟩ := hc w' ((D.hM.later hb).ag D.ok)
    obtain ⟨y0, y1⟩ := hca w' ((D.hM.later hb).ag D.ok)
    obtain ⟨y2, y3⟩ := hcb w' ((D.hM.later hb).ag D.ok)
    exact ⟨x1, x2, x5, x7, y0, y1, y2, y3, (hb.cell (D.hF.ltV D.hS)).trans sl, (D.hF.later hb (D.hF.ltV D.hS)).fz _⟩)
  have hst := stepT_1 hk env s
  rw [arg0_eq ha0, arg1_eq ha1] at hst
  rw [hst]
  rw [hk] at q0
  have hal' : (0 : Int) < (t.args.length : Int) := by omega
  have hal1 : (1 : Int) < (t.args.length : Int) := by omega
  have hnl' : (0 : Int) < (t.next.length : Int) := by omega
  have m0 := List.getElem_mem ha0
  have m1 := List.getElem_mem ha1
  have HSTK := Lib.hid (fun (wz : World) (hb : Below w.heap.size w wz) => (show DoesPost c S w steps vs sh F V o i vl t (.stop true 0 [] s) (thrown true 0) wz from ⟨rfl, S, vw, vs, sh, Ext.below hb, D.hM.later hb, fun h => by cases h⟩))
  have HDIV := Lib.hid (fun (wz : World) (hb : Below w.heap.size w wz) => (show DoesPost c S w steps vs sh F V o i vl t (.stop false 2 [] s) (thrown false 2) wz from ⟨rfl, S, vw, vs, sh, Ext.below hb, D.hM.later hb, fun _ h => by omega⟩))
  rw [if_neg (by
    intro h
    rw [← arg0_eq ha0, ← arg1_eq ha1] at h
    first | exact hv0 h.1 | exact hv1 h.2)]
  rw [getD_arg ha0] at hv0
  rw [show atomV env (t.args.getD 1 atm0) = atomV env t.args[1] from arg1_eq ha1] at hv1
  have HN0 := Lib.hid (fun (wx : World) (hb : Below w.heap.size w wx) => number_ok (HAX _ m0 wx hb) hv0)
  have HN1 := Lib.hid (fun (wx : World) (hb : Below w.heap.size w wx) => number_no (HAX _ m1 wx hb) hv1)
  clear D hfm hst hc hnx hT0 hk HA hca hcb HAX m0 m1
  have ltb := World.block_lt_of_cell? w ⟨tb, to + 5, none⟩ q5
  have lta := World.block_lt_of_cell? w ⟨ab1, ao1, none⟩ a0
  generalize t.args[0] = A0 at *
  generalize t.args[1] = A1 at *
  go_enter Try.func55, Try.ntmps55
  go_wp2_with fail
  go_region_held2 (fun wx => wx.cell? ⟨tb, to + 5, none⟩ = some (.slice (some ⟨ab1, ao1, none⟩) t.args.length ac) ∧ wx.cell? ⟨ab1, ao1, none⟩ = some (.bool A0.var) ∧ wx.cell? ⟨ab1, ao1 + 1, none⟩ = some (.int .i64 A0.n) ∧ wx.cell? ⟨ab1, ao1 + 2, none⟩ = some (.bool A1.var) ∧ wx.cell? ⟨ab1, ao1 + 3, none⟩ = some (.int .i64 A1.n)) (first | exact hf.out.elim | go_keep)
    (first | (go_at_call_of 69 A0; refine (HN0.out _ (by first | assumption | exact (Below.refl _ _).drew)).mono ?_; rintro e w1 ⟨rfl, hb1⟩; have hW1 : Below w.heap.size w w1 := bgo (by first | assumption | exact (Below.refl _ _).drew) hb1; obtain ⟨y1, y2, y5, y7, z0, z1, z2, z3, zs, zz⟩ := HK.out w1 hW1) | (go_at_call_of 69 A1; refine Calls.dies (HN1.out _ (by first | assumption | exact (Below.refl _ _).drew)) (fun e w' h => ?_) (.int .i64 0) w.drew (fun hf => ?_); (obtain ⟨rfl, hb9⟩ := h; exact ⟨rfl, HSTK.out _ (bgo (by first | assumption | exact (Below.refl _ _).drew) hb9)⟩); obtain ⟨y1, y2, y5, y7, z0, z1, z2, z3, zs, zz⟩ := HK.out w.drew (Below.refl _ _).drew))
  all_goals exact hf.out.elim
set_option maxRecDepth 100000 in
theorem does_prim_no2 {c : Ctx} {w : World} {S : List Nat} {steps : Nat} {s : St} {vw vs : Value} {sh : List Int} {F V o i : Nat} {vl : List Int} {env : Env} {tb to : Nat} {t : Term} (D : DoesIn c w S steps s vw vs sh F V o i vl env tb to t) (hk : t.kind = 1) (hv0 : ¬ (atomV env (t.args.getD 0 atm0)).kind = 1) (hv1 : ¬ (atomV env (t.args.getD 1 atm0)).kind = 1) :
    Calls Try.prog 55 #[.pointer (some ⟨c.M, 0, none⟩), .pointer (some ⟨tb, to, none⟩), .pointer (some ⟨F, 0, none⟩)] w (DoesPost c S w steps vs sh F V o i vl t (stepT t env s)) := by
  have hfm := D.fm
  rw [formedB_1 hk] at hfm
  obtain ⟨_, _, _, hal, hnl, hn0, hn1⟩ := of_decide_eq_true hfm
  have ha0 : 0 < t.args.length := by omega
  have ha1 : 1 < t.args.length := by omega
  have hnl0 : 0 < t.next.length := by omega
  obtain ⟨j, hj⟩ := D.hx (by rw [hk]; rfl)
  obtain ⟨ab, ac, nb, nc, HA, hac, hnc, hnb, hnx, hc⟩ := next_at D.hT
  obtain ⟨nbb, nbo, rfl, hT0⟩ := hnx 0 hnl0
  obtain ⟨q0, q1, q2, q5, q7⟩ := hc w (D.hM.ag D.ok)
  obtain ⟨ab1, ao1, rfl, hca⟩ := atm_at HA ha0
  have hcb := atm_at1 HA ha1
  obtain ⟨a0, a1⟩ := hca w (D.hM.ag D.ok)
  obtain ⟨a2, a3⟩ := hcb w (D.hM.ag D.ok)
  have HAX : ∀ a ∈ t.args, ∀ wx, Below w.heap.size w wx → AtomAt c wx S F a (atomV env a) := fun a ha wx hb => atomAt D.ok (D.hM.later hb) (D.hF.later hb (D.hF.ltV D.hS)) (fun k hk => Nat.lt_of_lt_of_le (D.hS k hk) hb.size) a (D.hb a ha)
  have HAT := Lib.hid (at_var D.ok D.hM D.hF hj)
  obtain ⟨qv, sl, _⟩ := D.hF.slot j _ hj
  have hne := D.neV
  have hne2 : ¬ V = ab1 := atm_lt D.ok (D.hM.newS V D.hF.inV) D.hF.neV (hca c.w1 D.ok.ag).1
  have hne3 : ¬ tb = V := fun e => hne e.symm
  have hne4 : ¬ ab1 = V := fun e => hne2 e.symm
  have HK : Hid (∀ w', Below w.heap.size w w' → w'.cell? ⟨tb, to + 1, none⟩ = some (.int .i64 t.x) ∧ w'.cell? ⟨tb, to + 2, none⟩ = some (.int .i64 t.n) ∧ w'.cell? ⟨tb, to + 5, none⟩ = some (.slice (some ⟨ab1, ao1, none⟩) t.args.length ac) ∧ w'.cell? ⟨tb, to + 7, none⟩ = some (.slice (some ⟨nbb, nbo, none⟩) t.next.length nc) ∧ w'.cell? ⟨ab1, ao1, none⟩ = some (.bool t.args[0].var) ∧ w'.cell? ⟨ab1, ao1 + 1, none⟩ = some (.int .i64 t.args[0].n) ∧ w'.cell? ⟨ab1, ao1 + 2, none⟩ = some (.bool t.args[1].var) ∧ w'.cell? ⟨ab1, ao1 + 3, none⟩ = some (.int .i64 t.args[1].n) ∧ w'.cell? ⟨V, o + j, none⟩ = some qv ∧ w'.frozen? ⟨V, o + j, none⟩ = false) := Lib.hid (fun w' hb => by
    obtain ⟨x0, x1, x2, x5, x7⟩ := hc w' ((D.hM.later hb).ag D.ok)
    obtain ⟨y0, y1⟩ := hca w' ((D.hM.later hb).ag D.ok)
    obtain ⟨y2, y3⟩ := hcb w' ((D.hM.later hb).ag D.ok)
    exact ⟨x1, x2, x5, x7, y0, y1, y2, y3, (hb.cell (D.hF.ltV D.hS)).trans sl, (D.hF.later hb (D.hF.ltV D.hS)).fz _⟩)
  have hst := stepT_1 hk env s
  rw [arg0_eq ha0, arg1_eq ha1] at hst
  rw [hst]
  rw [hk] at q0
  have hal' : (0 : Int) < (t.args.length : Int) := by omega
  have hal1 : (1 : Int) < (t.args.length : Int) := by omega
  have hnl' : (0 : Int) < (t.next.length : Int) := by omega
  have m0 := List.getElem_mem ha0
  have m1 := List.getElem_mem ha1
  have HSTK := Lib.hid (fun (wz : World) (hb : Below w.heap.size w wz) => (show DoesPost c S w steps vs sh F V o i vl t (.stop true 0 [] s) (thrown true 0) wz from ⟨rfl, S, vw, vs, sh, Ext.below hb, D.hM.later hb, fun h => by cases h⟩))
  have HDIV := Lib.hid (fun (wz : World) (hb : Below w.heap.size w wz) => (show DoesPost c S w steps vs sh F V o i vl t (.stop false 2 [] s) (thrown false 2) wz from ⟨rfl, S, vw, vs, sh, Ext.below hb, D.hM.later hb, fun _ h => by omega⟩))
  rw [if_neg (by
    intro h
    rw [← arg0_eq ha0, ← arg1_eq ha1] at h
    first | exact hv0 h.1 | exact hv1 h.2)]
  rw [getD_arg ha0] at hv0
  rw [show atomV env (t.args.getD 1 atm0) = atomV env t.args[1] from arg1_eq ha1] at hv1
  have HN0 := Lib.hid (fun (wx : World) (hb : Below w.heap.size w wx) => number_no (HAX _ m0 wx hb) hv0)
  have HN1 := Lib.hid (fun (wx : World) (hb : Below w.heap.size w wx) => number_no (HAX _ m1 wx hb) hv1)
  clear D hfm hst hc hnx hT0 hk HA hca hcb HAX m0 m1
  have ltb := World.block_lt_of_cell? w ⟨tb, to + 5, none⟩ q5
  have lta := World.block_lt_of_cell? w ⟨ab1, ao1, none⟩ a0
  generalize t.args[0] = A0 at *
  generalize t.args[1] = A1 at *
  go_enter Try.func55, Try.ntmps55
  go_wp2_with fail
  go_region_held2 (fun wx => wx.cell? ⟨tb, to + 5, none⟩ = some (.slice (some ⟨ab1, ao1, none⟩) t.args.length ac) ∧ wx.cell? ⟨ab1, ao1, none⟩ = some (.bool A0.var) ∧ wx.cell? ⟨ab1, ao1 + 1, none⟩ = some (.int .i64 A0.n) ∧ wx.cell? ⟨ab1, ao1 + 2, none⟩ = some (.bool A1.var) ∧ wx.cell? ⟨ab1, ao1 + 3, none⟩ = some (.int .i64 A1.n)) (first | exact hf.out.elim | go_keep)
    (first | (go_at_call_of 69 A0; refine Calls.dies (HN0.out _ (by first | assumption | exact (Below.refl _ _).drew)) (fun e w' h => ?_) (.int .i64 0) w.drew (fun hf => ?_); (obtain ⟨rfl, hb9⟩ := h; exact ⟨rfl, HSTK.out _ (bgo (by first | assumption | exact (Below.refl _ _).drew) hb9)⟩); obtain ⟨y1, y2, y5, y7, z0, z1, z2, z3, zs, zz⟩ := HK.out w.drew (Below.refl _ _).drew) | (go_at_call_of 69 A1; refine Calls.dies (HN1.out _ (by first | assumption | exact (Below.refl _ _).drew)) (fun e w' h => ?_) (.int .i64 0) w.drew (fun hf => ?_); (obtain ⟨rfl, hb9⟩ := h; exact ⟨rfl, HSTK.out _ (bgo (by first | assumption | exact (Below.refl _ _).drew) hb9)⟩); obtain ⟨y1, y2, y5, y7, z0, z1, z2, z3, zs, zz⟩ := HK.out w.drew (Below.refl _ _).drew))
  all_goals exact hf.out.elim
set_option maxRecDepth 100000 in
theorem does_prim_ok {c : Ctx} {w : World} {S : List Nat} {steps : Nat} {s : St} {vw vs : Value} {sh : List Int} {F V o i : Nat} {vl : List Int} {env : Env} {tb to : Nat} {t : Term} (D : DoesIn c w S steps s vw vs sh F V o i vl env tb to t) (hk : t.kind = 1) (hv0 : (atomV env (t.args.getD 0 atm0)).kind = 1) (hv1 : (atomV env (t.args.getD 1 atm0)).kind = 1) :
    Calls Try.prog 55 #[.pointer (some ⟨c.M, 0, none⟩), .pointer (some ⟨tb, to, none⟩), .pointer (some ⟨F, 0, none⟩)] w (DoesPost c S w steps vs sh F V o i vl t (stepT t env s)) := by
  have hfm := D.fm
  rw [formedB_1 hk] at hfm
  obtain ⟨_, _, _, hal, hnl, hn0, hn1⟩ := of_decide_eq_true hfm
  have ha0 : 0 < t.args.length := by omega
  have ha1 : 1 < t.args.length := by omega
  have hnl0 : 0 < t.next.length := by omega
  obtain ⟨j, hj⟩ := D.hx (by rw [hk]; rfl)
  obtain ⟨ab, ac, nb, nc, HA, hac, hnc, hnb, hnx, hc⟩ := next_at D.hT
  obtain ⟨nbb, nbo, rfl, hT0⟩ := hnx 0 hnl0
  obtain ⟨q0, q1, q2, q5, q7⟩ := hc w (D.hM.ag D.ok)
  obtain ⟨ab1, ao1, rfl, hca⟩ := atm_at HA ha0
  have hcb := atm_at1 HA ha1
  obtain ⟨a0, a1⟩ := hca w (D.hM.ag D.ok)
  obtain ⟨a2, a3⟩ := hcb w (D.hM.ag D.ok)
  have HAX : ∀ a ∈ t.args, ∀ wx, Below w.heap.size w wx → AtomAt c wx S F a (atomV env a) := fun a ha wx hb => atomAt D.ok (D.hM.later hb) (D.hF.later hb (D.hF.ltV D.hS)) (fun k hk => Nat.lt_of_lt_of_le (D.hS k hk) hb.size) a (D.hb a ha)
  have HAT := Lib.hid (at_var D.ok D.hM D.hF hj)
  obtain ⟨qv, sl, _⟩ := D.hF.slot j _ hj
  have hne := D.neV
  have hne2 : ¬ V = ab1 := atm_lt D.ok (D.hM.newS V D.hF.inV) D.hF.neV (hca c.w1 D.ok.ag).1
  have hne3 : ¬ tb = V := fun e => hne e.symm
  have hne4 : ¬ ab1 = V := fun e => hne2 e.symm
  have HK : Hid (∀ w', Below w.heap.size w w' → w'.cell? ⟨tb, to + 1, none⟩ = some (.int .i64 t.x) ∧ w'.cell? ⟨tb, to + 2, none⟩ = some (.int .i64 t.n) ∧ w'.cell? ⟨tb, to + 5, none⟩ = some (.slice (some ⟨ab1, ao1, none⟩) t.args.length ac) ∧ w'.cell? ⟨tb, to + 7, none⟩ = some (.slice (some ⟨nbb, nbo, none⟩) t.next.length nc) ∧ w'.cell? ⟨ab1, ao1, none⟩ = some (.bool t.args[0].var) ∧ w'.cell? ⟨ab1, ao1 + 1, none⟩ = some (.int .i64 t.args[0].n) ∧ w'.cell? ⟨ab1, ao1 + 2, none⟩ = some (.bool t.args[1].var) ∧ w'.cell? ⟨ab1, ao1 + 3, none⟩ = some (.int .i64 t.args[1].n) ∧ w'.cell? ⟨V, o + j, none⟩ = some qv ∧ w'.frozen? ⟨V, o + j, none⟩ = false) := Lib.hid (fun w' hb => by
    obtain ⟨x0, x1, x2, x5, x7⟩ := hc w' ((D.hM.later hb).ag D.ok)
    obtain ⟨y0, y1⟩ := hca w' ((D.hM.later hb).ag D.ok)
    obtain ⟨y2, y3⟩ := hcb w' ((D.hM.later hb).ag D.ok)
    exact ⟨x1, x2, x5, x7, y0, y1, y2, y3, (hb.cell (D.hF.ltV D.hS)).trans sl, (D.hF.later hb (D.hF.ltV D.hS)).fz _⟩)
  have hst := stepT_1 hk env s
  rw [arg0_eq ha0, arg1_eq ha1] at hst
  rw [hst]
  rw [hk] at q0
  have hal' : (0 : Int) < (t.args.length : Int) := by omega
  have hal1 : (1 : Int) < (t.args.length : Int) := by omega
  have hnl' : (0 : Int) < (t.next.length : Int) := by omega
  have m0 := List.getElem_mem ha0
  have m1 := List.getElem_mem ha1
  have HSTK := Lib.hid (fun (wz : World) (hb : Below w.heap.size w wz) => (show DoesPost c S w steps vs sh F V o i vl t (.stop true 0 [] s) (thrown true 0) wz from ⟨rfl, S, vw, vs, sh, Ext.below hb, D.hM.later hb, fun h => by cases h⟩))
  have HDIV := Lib.hid (fun (wz : World) (hb : Below w.heap.size w wz) => (show DoesPost c S w steps vs sh F V o i vl t (.stop false 2 [] s) (thrown false 2) wz from ⟨rfl, S, vw, vs, sh, Ext.below hb, D.hM.later hb, fun _ h => by omega⟩))
  rw [getD_arg ha0] at hv0
  rw [show atomV env (t.args.getD 1 atm0) = atomV env t.args[1] from arg1_eq ha1] at hv1
  rw [if_pos ⟨hv0, hv1⟩]
  have i0 := bound_i64 D.hF (D.hb _ m0)
  have i1 := bound_i64 D.hF (D.hb _ m1)
  have HN0 := Lib.hid (fun (s : Later w) => Calls.later_of (number_ok (HAX _ m0 s.val s.property) hv0))
  have HN1 := Lib.hid (fun (s : Later w) => Calls.later_of (number_ok (HAX _ m1 s.val s.property) hv1))
  cases hdo : doOp t.n (atomV env t.args[0]).n (atomV env t.args[1]).n with
  | none =>
    have HPR := Lib.hid (fun (wx : World) => prim_no (w := wx) i0 i1 hdo)
    clear D hfm hst hc hnx hT0 hk HA hca hcb HAX m0 m1 hdo
    have ltb := World.block_lt_of_cell? w ⟨tb, to + 5, none⟩ q5
    have lta := World.block_lt_of_cell? w ⟨ab1, ao1, none⟩ a0
    generalize t.args[0] = A0 at *
    generalize t.args[1] = A1 at *
    go_enter Try.func55, Try.ntmps55
    go_wp2_with fail
    have hL := later_cell w
    refine wp_region_later (by kernel_rfl) (by kernel_rfl) ?_
    repeat (go_big_quiet_step ((first | (go_at_call_of 69 A0; exact HN0.out _) | (go_at_call_of 69 A1; exact HN1.out _))))
    refine wpQuiet_nil ?_
    intro wa hw'
    obtain ⟨⟨wz, hb1⟩, hw''⟩ := hw'
    subst hw''
    have hba : Below w.heap.size w wa := hb1
    clear hL hb1
    obtain ⟨y1, y2, y5, y7, z0, z1, z2, z3, zs, zz⟩ := HK.out wa hba
    go_wp2_with fail
    go_region_held2 (fun wx => wx.cell? ⟨tb, to + 1, none⟩ = some (.int .i64 t.x) ∧ wx.cell? ⟨tb, to + 2, none⟩ = some (.int .i64 t.n)) (first | exact hf.out.elim | go_keep)
      (first | (go_at_call 71; refine (HAT.out _ (by first | assumption | exact hba.drew)).mono ?_; rintro e w1 ⟨rfl, hb1⟩; have hW1 : Below w.heap.size w w1 := bgo (by first | assumption | exact hba.drew) hb1; obtain ⟨y1, y2, y5, y7, z0, z1, z2, z3, zs, zz⟩ := HK.out w1 hW1) | (go_at_call 70; refine Calls.dies (HPR.out _) (fun e w' h => ?_) (.pointer none) wa.drew (fun hf => ?_); (obtain ⟨rfl, rfl⟩ := h; exact ⟨rfl, HDIV.out _ (by first | assumption | exact hba.drew)⟩); obtain ⟨y1, y2, y5, y7, z0, z1, z2, z3, zs, zz⟩ := HK.out wa.drew hba.drew))
    all_goals exact hf.out.elim
  | some r =>
    have HSS := Lib.hid D.hS
    have HPR := Lib.hid (fun (wx : World) (hS : ∀ k ∈ S, k < wx.heap.size) => prim_ok (nf := c.f.funs.length) (S := S) (w := wx) i0 i1 hdo (fun h => by have := hS _ h; omega))
    have HFIN := Lib.hid (fin_slot D hj hnl0 hT0 (u := primV t.n r))
    clear D hfm hst hc hnx hT0 hk HA hca hcb HAX m0 m1 hdo
    have ltb := World.block_lt_of_cell? w ⟨tb, to + 5, none⟩ q5
    have lta := World.block_lt_of_cell? w ⟨ab1, ao1, none⟩ a0
    generalize t.args[0] = A0 at *
    generalize t.args[1] = A1 at *
    go_enter Try.func55, Try.ntmps55
    go_wp2_with fail
    have hL := later_cell w
    refine wp_region_later (by kernel_rfl) (by kernel_rfl) ?_
    repeat (go_big_quiet_step ((first | (go_at_call_of 69 A0; exact HN0.out _) | (go_at_call_of 69 A1; exact HN1.out _))))
    refine wpQuiet_nil ?_
    intro wa hw'
    obtain ⟨⟨wz, hb1⟩, hw''⟩ := hw'
    subst hw''
    have hba : Below w.heap.size w wa := hb1
    clear hL hb1
    obtain ⟨y1, y2, y5, y7, z0, z1, z2, z3, zs, zz⟩ := HK.out wa hba
    go_wp2_with fail
    go_region_held3 (fun wx => wx.cell? ⟨tb, to + 1, none⟩ = some (.int .i64 t.x) ∧ wx.cell? ⟨tb, to + 2, none⟩ = some (.int .i64 t.n)) (go_keep)
      (first | (go_at_call 71; refine (HAT.out _ (by first | assumption | exact hba.drew)).mono ?_; rintro e w1 ⟨rfl, hb1⟩; have hW1 : Below w.heap.size w w1 := bgo (by first | assumption | exact hba.drew) hb1; obtain ⟨y1, y2, y5, y7, z0, z1, z2, z3, zs, zz⟩ := HK.out w1 hW1) | (go_at_call 70; refine (HPR.out _ (fun k hk => Nat.lt_of_lt_of_le (HSS.out k hk) (show Below w.heap.size w _ from by first | assumption | exact hba.drew).size)).mono ?_; rintro e w2 ⟨p, rfl, hb2, hr2⟩; obtain ⟨pb, rfl⟩ := rval_ptr hr2; have hW2 : Below w.heap.size w w2 := bgo (by first | assumption | exact hba.drew) hb2; obtain ⟨y1, y2, y5, y7, z0, z1, z2, z3, zs, zz⟩ := HK.out w2 hW2))
    all_goals
      go_wp2_with fail
      go_ret
      exact HFIN.out _ _ (by assumption) ⟨_, by assumption, by first | exact Below.refl _ _ | assumption⟩
theorem does_prim {c : Ctx} {w : World} {S : List Nat} {steps : Nat} {s : St} {vw vs : Value} {sh : List Int} {F V o i : Nat} {vl : List Int} {env : Env} {tb to : Nat} {t : Term} (D : DoesIn c w S steps s vw vs sh F V o i vl env tb to t) (hk : t.kind = 1) :
    Calls Try.prog 55 #[.pointer (some ⟨c.M, 0, none⟩), .pointer (some ⟨tb, to, none⟩), .pointer (some ⟨F, 0, none⟩)] w (DoesPost c S w steps vs sh F V o i vl t (stepT t env s)) := by
  by_cases h0 : (atomV env (t.args.getD 0 atm0)).kind = 1 <;> by_cases h1 : (atomV env (t.args.getD 1 atm0)).kind = 1
  · exact does_prim_ok D hk h0 h1
  · exact does_prim_no1 D hk h0 h1
  · exact does_prim_no0 D hk h0 h1
  · exact does_prim_no2 D hk h0 h1
end Go.Proofs.Ytjcgoohmhbgkiaa
