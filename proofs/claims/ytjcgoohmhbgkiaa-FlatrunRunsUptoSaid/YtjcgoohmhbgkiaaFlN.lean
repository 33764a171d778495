/- The machine: what a term does. Fields, what was closed over. -/
import Derived.Test.YtjcgoohmhbgkiaaProg
import Derived.Test.YtjcgoohmhbgkiaaFlM
import Derived.Deep.RegionHeld2
set_option linter.all false
set_option linter.all false
set_option linter.all false
namespace Go.Proofs.Ytjcgoohmhbgkiaa
open Go.RowKit
set_option maxHeartbeats 1600000

theorem atm_lt {c : Ctx} (ok : c.Ok) {V b o : Nat} {v : Value} (hV : V = c.M ∨ c.w1.heap.size ≤ V) (hne : V ≠ c.M) (h : c.w1.cell? ⟨b, o, none⟩ = some v) : ¬ V = b := by
  have h1 := World.block_lt_of_cell? c.w1 ⟨b, o, none⟩ h
  rcases hV with e | e
  · exact absurd e hne
  · intro e'
    have h2 : b < c.w1.heap.size := h1
    omega
/-- The term goes on behind a slot that was filled. -/
theorem fin_slot {c : Ctx} {w : World} {S : List Nat} {steps : Nat} {s : St} {vw vs : Value} {sh : List Int} {F V o i : Nat} {vl : List Int} {env : Env} {tb to : Nat} {t : Term} (D : DoesIn c w S steps s vw vs sh F V o i vl env tb to t) {j : Nat} (hj : vl[j]? = some t.x) (hnl : 0 < t.next.length) {nbb nbo : Nat} (hT0 : TmAt c.m0 nbb (nbo + 0 * 8) t.next[0])
    {u : Val} (wz : World) (q : Value) (hb : Below w.heap.size w wz) (hq : ∃ wq, RVal c.f.funs.length (memB S wq) q u ∧ Below wq.heap.size wq wz) : DoesPost c S w steps vs sh F V o i vl t (.next 0 (upd env t.x u) s) (.returned (.pointer (some ⟨nbb, nbo, none⟩))) (wz.setCell ⟨V, o + j, none⟩ q) := by
  obtain ⟨wq, h1, h2⟩ := hq
  have hM := D.hM.later hb
  have hF := D.hF.later hb (D.hF.ltV D.hS)
  have hE := (Ext.below hb (S := S)).trans (Ext.of (kept_setCell hF.inV wz (o + j) q))
  exact ⟨nbb, nbo, rfl, ⟨hnl, by simpa using hT0⟩, S, vw, hE, fun k hk => Nat.lt_of_lt_of_le (D.hS k hk) hE.kept.size, hM.setSlot hF.inV hF.neV D.sep.2.1 D.sep.2.2.2 _ _, hF.setSlot D.nd hj (h1.mono (Ext.below h2).mem), D.sep⟩
set_option maxRecDepth 100000 in
theorem does_field {c : Ctx} {w : World} {S : List Nat} {steps : Nat} {s : St} {vw vs : Value} {sh : List Int} {F V o i : Nat} {vl : List Int} {env : Env} {tb to : Nat} {t : Term} (D : DoesIn c w S steps s vw vs sh F V o i vl env tb to t) (hk : t.kind = 3) :
    Calls Try.prog 55 #[.pointer (some ⟨c.M, 0, none⟩), .pointer (some ⟨tb, to, none⟩), .pointer (some ⟨F, 0, none⟩)] w (DoesPost c S w steps vs sh F V o i vl t (stepT t env s)) := by
  have hfm := D.fm
  rw [formedB_3 hk] at hfm
  obtain ⟨_, _, _, hal, hnl, hn0, hn1⟩ := of_decide_eq_true hfm
  have ha0 : 0 < t.args.length := by omega
  have hnl0 : 0 < t.next.length := by omega
  obtain ⟨j, hj⟩ := D.hx (by rw [hk]; rfl)
  obtain ⟨ab, ac, nb, nc, HA, hac, hnc, hnb, hnx, hc⟩ := next_at D.hT
  obtain ⟨nbb, nbo, rfl, hT0⟩ := hnx 0 hnl0
  obtain ⟨q0, q1, q2, q5, q7⟩ := hc w (D.hM.ag D.ok)
  obtain ⟨ab1, ao1, rfl, hca⟩ := atm_at HA ha0
  obtain ⟨a0, a1⟩ := hca w (D.hM.ag D.ok)
  have hAt := Lib.hid (atomAt D.ok D.hM D.hF D.hS t.args[0] (D.hb _ (List.getElem_mem ha0))).plain
  have HAT := Lib.hid (at_var D.ok D.hM D.hF hj)
  obtain ⟨qv, sl, _⟩ := D.hF.slot j _ hj
  have hne := D.neV
  have hne2 : ¬ V = ab1 := atm_lt D.ok (D.hM.newS V D.hF.inV) D.hF.neV (hca c.w1 D.ok.ag).1
  have hne3 : ¬ tb = V := fun e => hne e.symm
  have hne4 : ¬ ab1 = V := fun e => hne2 e.symm
  have HK : Hid (∀ w', Below w.heap.size w w' → w'.cell? ⟨tb, to + 1, none⟩ = some (.int .i64 t.x) ∧ w'.cell? ⟨tb, to + 2, none⟩ = some (.int .i64 t.n) ∧ w'.cell? ⟨tb, to + 5, none⟩ = some (.slice (some ⟨ab1, ao1, none⟩) t.args.length ac) ∧ w'.cell? ⟨tb, to + 7, none⟩ = some (.slice (some ⟨nbb, nbo, none⟩) t.next.length nc) ∧ w'.cell? ⟨ab1, ao1, none⟩ = some (.bool t.args[0].var) ∧ w'.cell? ⟨ab1, ao1 + 1, none⟩ = some (.int .i64 t.args[0].n) ∧ w'.cell? ⟨V, o + j, none⟩ = some qv ∧ w'.frozen? ⟨V, o + j, none⟩ = false) := Lib.hid (fun w' hb => by
    obtain ⟨x0, x1, x2, x5, x7⟩ := hc w' ((D.hM.later hb).ag D.ok)
    obtain ⟨y0, y1⟩ := hca w' ((D.hM.later hb).ag D.ok)
    exact ⟨x1, x2, x5, x7, y0, y1, (hb.cell (D.hF.ltV D.hS)).trans sl, (D.hF.later hb (D.hF.ltV D.hS)).fz _⟩)
  have hst := stepT_3 hk env s
  rw [arg0_eq ha0] at hst
  rw [hst]
  rw [hk] at q0
  have hal' : (0 : Int) < (t.args.length : Int) := by omega
  have hnl' : (0 : Int) < (t.next.length : Int) := by omega
  have zf := D.hF.fz (o + j)
  by_cases hp : (atomV env t.args[0]).kind = 2 ∧ t.n < (atomV env t.args[0]).args.length
  · rw [if_pos hp]
    have HPA := Lib.hid (fun (w1 : World) (p : Value) (hr : RVal c.f.funs.length (memB S w1) p (atomV env t.args[0])) (wx : World) (hb : Below w1.heap.size w1 wx) => part_ok (hr.mono (Ext.below hb).mem) hp.1 hn0 hp.2)
    have HFIN := Lib.hid (fin_slot D hj hnl0 hT0 (u := (atomV env t.args[0]).args.getD t.n.toNat nov))
    clear D hfm hst hc hnx hT0 hk HA hca hp
    go_enter Try.func55, Try.ntmps55
    go_wp2_with fail
    go_region_held3 (fun wx => wx.cell? ⟨tb, to + 1, none⟩ = some (.int .i64 t.x) ∧ wx.cell? ⟨tb, to + 2, none⟩ = some (.int .i64 t.n) ∧ wx.cell? ⟨tb, to + 5, none⟩ = some (.slice (some ⟨ab1, ao1, none⟩) t.args.length ac) ∧ wx.cell? ⟨ab1, ao1, none⟩ = some (.bool t.args[0].var) ∧ wx.cell? ⟨ab1, ao1 + 1, none⟩ = some (.int .i64 t.args[0].n)) (go_keep)
      (first | (go_at_call 71; refine (HAT.out _ (by first | assumption | exact (Below.refl _ _).drew)).mono ?_; rintro e w1 ⟨rfl, hb1⟩; have hW1 : Below w.heap.size w w1 := bgo (by first | assumption | exact (Below.refl _ _).drew) hb1; obtain ⟨y1, y2, y5, y7, z0, z1, zs, zz⟩ := HK.out w1 hW1) |
        (go_at_call 74; refine (hAt.out _ (by first | assumption | exact (Below.refl _ _).drew)).mono ?_; rintro e w2 ⟨p, rfl, hb2, hr2⟩; have hW2 : Below w.heap.size w w2 := bgo (by first | assumption | exact (Below.refl _ _).drew) hb2; obtain ⟨y1, y2, y5, y7, z0, z1, zs, zz⟩ := HK.out w2 hW2) |
        (go_at_call 73; refine (HPA.out _ _ (by assumption) _ (by first | exact Below.refl _ _ | assumption)).mono ?_; rintro e w3 ⟨q, rfl, hw3, hrq⟩; obtain rfl := hw3.symm; obtain ⟨qb, rfl⟩ := rval_ptr hrq))
    all_goals
      go_wp2_with fail
      go_ret
      exact HFIN.out _ _ (by assumption) ⟨_, by assumption, by first | exact Below.refl _ _ | assumption⟩
  · rw [if_neg hp]
    have HPN := Lib.hid (fun (w1 : World) (p : Value) (hr : RVal c.f.funs.length (memB S w1) p (atomV env t.args[0])) (wx : World) (hb : Below w1.heap.size w1 wx) => part_no (hr.mono (Ext.below hb).mem) hn0 hp)
    have HFIN := Lib.hid (fun (wz : World) (hb : Below w.heap.size w wz) => (show DoesPost c S w steps vs sh F V o i vl t (.stop true 0 [] s) (thrown true 0) wz from ⟨rfl, S, vw, vs, sh, Ext.below hb, D.hM.later hb, fun h => by cases h⟩))
    clear D hfm hst hc hnx hT0 hk HA hca hp
    go_enter Try.func55, Try.ntmps55
    go_wp2_with fail
    go_region_held2 (fun wx => wx.cell? ⟨tb, to + 1, none⟩ = some (.int .i64 t.x) ∧ wx.cell? ⟨tb, to + 2, none⟩ = some (.int .i64 t.n) ∧ wx.cell? ⟨tb, to + 5, none⟩ = some (.slice (some ⟨ab1, ao1, none⟩) t.args.length ac) ∧ wx.cell? ⟨ab1, ao1, none⟩ = some (.bool t.args[0].var) ∧ wx.cell? ⟨ab1, ao1 + 1, none⟩ = some (.int .i64 t.args[0].n)) (first | exact hf.out.elim | go_keep)
      (first | (go_at_call 71; refine (HAT.out _ (by first | assumption | exact (Below.refl _ _).drew)).mono ?_; rintro e w1 ⟨rfl, hb1⟩; have hW1 : Below w.heap.size w w1 := bgo (by first | assumption | exact (Below.refl _ _).drew) hb1; obtain ⟨y1, y2, y5, y7, z0, z1, zs, zz⟩ := HK.out w1 hW1) |
        (go_at_call 74; refine (hAt.out _ (by first | assumption | exact (Below.refl _ _).drew)).mono ?_; rintro e w2 ⟨p, rfl, hb2, hr2⟩; have hW2 : Below w.heap.size w w2 := bgo (by first | assumption | exact (Below.refl _ _).drew) hb2; obtain ⟨y1, y2, y5, y7, z0, z1, zs, zz⟩ := HK.out w2 hW2) |
        (go_at_call 73; refine Calls.dies (HPN.out _ _ (by assumption) _ (by first | exact Below.refl _ _ | assumption)) (fun e w' h => ?_) (.pointer none) w.drew (fun hf => ?_); (obtain ⟨rfl, rfl⟩ := h; exact ⟨rfl, HFIN.out _ (by assumption)⟩); obtain ⟨y1, y2, y5, y7, z0, z1, zs, zz⟩ := HK.out w.drew (Below.refl _ _).drew))
    all_goals exact hf.out.elim
set_option maxRecDepth 100000 in
theorem does_env {c : Ctx} {w : World} {S : List Nat} {steps : Nat} {s : St} {vw vs : Value} {sh : List Int} {F V o i : Nat} {vl : List Int} {env : Env} {tb to : Nat} {t : Term} (D : DoesIn c w S steps s vw vs sh F V o i vl env tb to t) (hk : t.kind = 10) :
    Calls Try.prog 55 #[.pointer (some ⟨c.M, 0, none⟩), .pointer (some ⟨tb, to, none⟩), .pointer (some ⟨F, 0, none⟩)] w (DoesPost c S w steps vs sh F V o i vl t (stepT t env s)) := by
  have hfm := D.fm
  rw [formedB_10 hk] at hfm
  obtain ⟨_, _, _, hal, hnl, hn0, hn1⟩ := of_decide_eq_true hfm
  have ha0 : 0 < t.args.length := by omega
  have hnl0 : 0 < t.next.length := by omega
  obtain ⟨j, hj⟩ := D.hx (by rw [hk]; rfl)
  obtain ⟨ab, ac, nb, nc, HA, hac, hnc, hnb, hnx, hc⟩ := next_at D.hT
  obtain ⟨nbb, nbo, rfl, hT0⟩ := hnx 0 hnl0
  obtain ⟨q0, q1, q2, q5, q7⟩ := hc w (D.hM.ag D.ok)
  obtain ⟨ab1, ao1, rfl, hca⟩ := atm_at HA ha0
  obtain ⟨a0, a1⟩ := hca w (D.hM.ag D.ok)
  have hAt := Lib.hid (atomAt D.ok D.hM D.hF D.hS t.args[0] (D.hb _ (List.getElem_mem ha0))).plain
  have HAT := Lib.hid (at_var D.ok D.hM D.hF hj)
  obtain ⟨qv, sl, _⟩ := D.hF.slot j _ hj
  have hne := D.neV
  have hne2 : ¬ V = ab1 := atm_lt D.ok (D.hM.newS V D.hF.inV) D.hF.neV (hca c.w1 D.ok.ag).1
  have hne3 : ¬ tb = V := fun e => hne e.symm
  have hne4 : ¬ ab1 = V := fun e => hne2 e.symm
  have HK : Hid (∀ w', Below w.heap.size w w' → w'.cell? ⟨tb, to + 1, none⟩ = some (.int .i64 t.x) ∧ w'.cell? ⟨tb, to + 2, none⟩ = some (.int .i64 t.n) ∧ w'.cell? ⟨tb, to + 5, none⟩ = some (.slice (some ⟨ab1, ao1, none⟩) t.args.length ac) ∧ w'.cell? ⟨tb, to + 7, none⟩ = some (.slice (some ⟨nbb, nbo, none⟩) t.next.length nc) ∧ w'.cell? ⟨ab1, ao1, none⟩ = some (.bool t.args[0].var) ∧ w'.cell? ⟨ab1, ao1 + 1, none⟩ = some (.int .i64 t.args[0].n) ∧ w'.cell? ⟨V, o + j, none⟩ = some qv ∧ w'.frozen? ⟨V, o + j, none⟩ = false) := Lib.hid (fun w' hb => by
    obtain ⟨x0, x1, x2, x5, x7⟩ := hc w' ((D.hM.later hb).ag D.ok)
    obtain ⟨y0, y1⟩ := hca w' ((D.hM.later hb).ag D.ok)
    exact ⟨x1, x2, x5, x7, y0, y1, (hb.cell (D.hF.ltV D.hS)).trans sl, (D.hF.later hb (D.hF.ltV D.hS)).fz _⟩)
  have hst := stepT_10 hk env s
  rw [arg0_eq ha0] at hst
  rw [hst]
  rw [hk] at q0
  have hal' : (0 : Int) < (t.args.length : Int) := by omega
  have hnl' : (0 : Int) < (t.next.length : Int) := by omega
  have zf := D.hF.fz (o + j)
  by_cases hp : (atomV env t.args[0]).kind = 3 ∧ t.n < (atomV env t.args[0]).args.length
  · rw [if_pos hp]
    have HPA := Lib.hid (fun (w1 : World) (p : Value) (hr : RVal c.f.funs.length (memB S w1) p (atomV env t.args[0])) (wx : World) (hb : Below w1.heap.size w1 wx) => part_ok (hr.mono (Ext.below hb).mem) hp.1 hn0 hp.2)
    have HFIN := Lib.hid (fin_slot D hj hnl0 hT0 (u := (atomV env t.args[0]).args.getD t.n.toNat nov))
    clear D hfm hst hc hnx hT0 hk HA hca hp
    go_enter Try.func55, Try.ntmps55
    go_wp2_with fail
    go_region_held3 (fun wx => wx.cell? ⟨tb, to + 1, none⟩ = some (.int .i64 t.x) ∧ wx.cell? ⟨tb, to + 2, none⟩ = some (.int .i64 t.n) ∧ wx.cell? ⟨tb, to + 5, none⟩ = some (.slice (some ⟨ab1, ao1, none⟩) t.args.length ac) ∧ wx.cell? ⟨ab1, ao1, none⟩ = some (.bool t.args[0].var) ∧ wx.cell? ⟨ab1, ao1 + 1, none⟩ = some (.int .i64 t.args[0].n)) (go_keep)
      (first | (go_at_call 71; refine (HAT.out _ (by first | assumption | exact (Below.refl _ _).drew)).mono ?_; rintro e w1 ⟨rfl, hb1⟩; have hW1 : Below w.heap.size w w1 := bgo (by first | assumption | exact (Below.refl _ _).drew) hb1; obtain ⟨y1, y2, y5, y7, z0, z1, zs, zz⟩ := HK.out w1 hW1) |
        (go_at_call 74; refine (hAt.out _ (by first | assumption | exact (Below.refl _ _).drew)).mono ?_; rintro e w2 ⟨p, rfl, hb2, hr2⟩; have hW2 : Below w.heap.size w w2 := bgo (by first | assumption | exact (Below.refl _ _).drew) hb2; obtain ⟨y1, y2, y5, y7, z0, z1, zs, zz⟩ := HK.out w2 hW2) |
        (go_at_call 73; refine (HPA.out _ _ (by assumption) _ (by first | exact Below.refl _ _ | assumption)).mono ?_; rintro e w3 ⟨q, rfl, hw3, hrq⟩; obtain rfl := hw3.symm; obtain ⟨qb, rfl⟩ := rval_ptr hrq))
    all_goals
      go_wp2_with fail
      go_ret
      exact HFIN.out _ _ (by assumption) ⟨_, by assumption, by first | exact Below.refl _ _ | assumption⟩
  · rw [if_neg hp]
    have HPN := Lib.hid (fun (w1 : World) (p : Value) (hr : RVal c.f.funs.length (memB S w1) p (atomV env t.args[0])) (wx : World) (hb : Below w1.heap.size w1 wx) => part_no (hr.mono (Ext.below hb).mem) hn0 hp)
    have HFIN := Lib.hid (fun (wz : World) (hb : Below w.heap.size w wz) => (show DoesPost c S w steps vs sh F V o i vl t (.stop true 0 [] s) (thrown true 0) wz from ⟨rfl, S, vw, vs, sh, Ext.below hb, D.hM.later hb, fun h => by cases h⟩))
    clear D hfm hst hc hnx hT0 hk HA hca hp
    go_enter Try.func55, Try.ntmps55
    go_wp2_with fail
    go_region_held2 (fun wx => wx.cell? ⟨tb, to + 1, none⟩ = some (.int .i64 t.x) ∧ wx.cell? ⟨tb, to + 2, none⟩ = some (.int .i64 t.n) ∧ wx.cell? ⟨tb, to + 5, none⟩ = some (.slice (some ⟨ab1, ao1, none⟩) t.args.length ac) ∧ wx.cell? ⟨ab1, ao1, none⟩ = some (.bool t.args[0].var) ∧ wx.cell? ⟨ab1, ao1 + 1, none⟩ = some (.int .i64 t.args[0].n)) (first | exact hf.out.elim | go_keep)
      (first | (go_at_call 71; refine (HAT.out _ (by first | assumption | exact (Below.refl _ _).drew)).mono ?_; rintro e w1 ⟨rfl, hb1⟩; have hW1 : Below w.heap.size w w1 := bgo (by first | assumption | exact (Below.refl _ _).drew) hb1; obtain ⟨y1, y2, y5, y7, z0, z1, zs, zz⟩ := HK.out w1 hW1) |
        (go_at_call 74; refine (hAt.out _ (by first | assumption | exact (Below.refl _ _).drew)).mono ?_; rintro e w2 ⟨p, rfl, hb2, hr2⟩; have hW2 : Below w.heap.size w w2 := bgo (by first | assumption | exact (Below.refl _ _).drew) hb2; obtain ⟨y1, y2, y5, y7, z0, z1, zs, zz⟩ := HK.out w2 hW2) |
        (go_at_call 73; refine Calls.dies (HPN.out _ _ (by assumption) _ (by first | exact Below.refl _ _ | assumption)) (fun e w' h => ?_) (.pointer none) w.drew (fun hf => ?_); (obtain ⟨rfl, rfl⟩ := h; exact ⟨rfl, HFIN.out _ (by assumption)⟩); obtain ⟨y1, y2, y5, y7, z0, z1, zs, zz⟩ := HK.out w.drew (Below.refl _ _).drew))
    all_goals exact hf.out.elim
end Go.Proofs.Ytjcgoohmhbgkiaa
