/- The machine: what a term does. Closures, writes, switches, the end. -/
import Derived.Test.YtjcgoohmhbgkiaaProg
import Derived.Test.YtjcgoohmhbgkiaaMFk
set_option linter.all false
set_option linter.all false
set_option linter.all false
namespace Go.Proofs.Ytjcgoohmhbgkiaa
open Go.RowKit
set_option maxHeartbeats 800000

theorem atm_at {m : Mp} {ab : Option Addr} {ac : Nat} {l : List Atm} (h : RAtoms m (.slice ab l.length ac) l) (h0 : 0 < l.length) : ∃ b o, ab = some ⟨b, o, none⟩ ∧ ∀ w, Ag m w → w.cell? ⟨b, o, none⟩ = some (.bool l[0].var) ∧ w.cell? ⟨b, o + 1, none⟩ = some (.int .i64 l[0].n) := by
  obtain ⟨b, o, e, _, _, hc⟩ := atms_at h 0 h0
  exact ⟨b, o, e, fun w hw => by simpa using hc w hw⟩
theorem getD_arg {t : Term} (h : 0 < t.args.length) : t.args.getD 0 atm0 = t.args[0] := by simp [List.getD_eq_getElem?_getD, h]
def arg0 (e : Env) (t : Term) : Val := atomV e (t.args.getD 0 atm0)
def arg1 (e : Env) (t : Term) : Val := atomV e (t.args.getD 1 atm0)
theorem stepT_5 {t : Term} (h : t.kind = 5) (e : Env) (s : St) : stepT t e s = .call (t.args.map (atomV e)) s := by
  unfold stepT
  rw [if_pos h]
theorem stepT_1 {t : Term} (h : t.kind = 1) (e : Env) (s : St) : stepT t e s = if (arg0 e t).kind = 1 ∧ (arg1 e t).kind = 1 then (match doOp t.n (arg0 e t).n (arg1 e t).n with | none => .stop false 2 [] s | some r => .next 0 (upd e t.x (primV t.n r)) s) else .stop true 0 [] s := by
  unfold stepT
  rw [if_neg (by rw [h]; decide)]
  rw [if_pos h]
  try rfl
theorem stepT_2 {t : Term} (h : t.kind = 2) (e : Env) (s : St) : stepT t e s = .next 0 (upd e t.x (.mk 2 t.n (t.args.map (atomV e)))) { s with made := s.made + (t.args.length + 1) } := by
  unfold stepT
  rw [if_neg (by rw [h]; decide)]
  rw [if_neg (by rw [h]; decide)]
  rw [if_pos h]
theorem stepT_9 {t : Term} (h : t.kind = 9) (e : Env) (s : St) : stepT t e s = .next 0 (upd e t.x (.mk 3 t.n (t.args.map (atomV e)))) { s with made := s.made + (t.args.length + 1) } := by
  unfold stepT
  rw [if_neg (by rw [h]; decide)]
  rw [if_neg (by rw [h]; decide)]
  rw [if_neg (by rw [h]; decide)]
  rw [if_pos h]
theorem stepT_3 {t : Term} (h : t.kind = 3) (e : Env) (s : St) : stepT t e s = if (arg0 e t).kind = 2 ∧ t.n < (arg0 e t).args.length then .next 0 (upd e t.x ((arg0 e t).args.getD t.n.toNat nov)) s else .stop true 0 [] s := by
  unfold stepT
  rw [if_neg (by rw [h]; decide)]
  rw [if_neg (by rw [h]; decide)]
  rw [if_neg (by rw [h]; decide)]
  rw [if_neg (by rw [h]; decide)]
  rw [if_pos h]
  try rfl
theorem stepT_10 {t : Term} (h : t.kind = 10) (e : Env) (s : St) : stepT t e s = if (arg0 e t).kind = 3 ∧ t.n < (arg0 e t).args.length then .next 0 (upd e t.x ((arg0 e t).args.getD t.n.toNat nov)) s else .stop true 0 [] s := by
  unfold stepT
  rw [if_neg (by rw [h]; decide)]
  rw [if_neg (by rw [h]; decide)]
  rw [if_neg (by rw [h]; decide)]
  rw [if_neg (by rw [h]; decide)]
  rw [if_neg (by rw [h]; decide)]
  rw [if_pos h]
  try rfl
theorem stepT_6 {t : Term} (h : t.kind = 6) (e : Env) (s : St) : stepT t e s = if (t.ints = true ∧ (arg0 e t).kind = 1) ∨ (t.ints = false ∧ (arg0 e t).kind = 2) then (if idxOf t.tags (arg0 e t).n < t.next.length then .next (idxOf t.tags (arg0 e t).n) e s else .stop true 0 [] s) else .stop true 0 [] s := by
  unfold stepT
  rw [if_neg (by rw [h]; decide)]
  rw [if_neg (by rw [h]; decide)]
  rw [if_neg (by rw [h]; decide)]
  rw [if_neg (by rw [h]; decide)]
  rw [if_neg (by rw [h]; decide)]
  rw [if_neg (by rw [h]; decide)]
  rw [if_pos h]
  try rfl
theorem stepT_7 {t : Term} (h : t.kind = 7) (e : Env) (s : St) : stepT t e s = if (arg0 e t).kind = 1 then (if s.writes.length = 4096 then .stop false 4 [] s else .next 0 e { s with writes := s.writes ++ [(arg0 e t).n] }) else .stop true 0 [] s := by
  unfold stepT
  rw [if_neg (by rw [h]; decide)]
  rw [if_neg (by rw [h]; decide)]
  rw [if_neg (by rw [h]; decide)]
  rw [if_neg (by rw [h]; decide)]
  rw [if_neg (by rw [h]; decide)]
  rw [if_neg (by rw [h]; decide)]
  rw [if_neg (by rw [h]; decide)]
  rw [if_pos h]
  try rfl
theorem stepT_8 {t : Term} (h : t.kind = 8) (e : Env) (s : St) : stepT t e s = match showV (arg0 e t) [] with | .inl (st, en) => .stop st en [] s | .inr l => .stop false 1 l s := by
  unfold stepT
  rw [if_neg (by rw [h]; decide)]
  rw [if_neg (by rw [h]; decide)]
  rw [if_neg (by rw [h]; decide)]
  rw [if_neg (by rw [h]; decide)]
  rw [if_neg (by rw [h]; decide)]
  rw [if_neg (by rw [h]; decide)]
  rw [if_neg (by rw [h]; decide)]
  rw [if_neg (by rw [h]; decide)]
  try rfl
theorem arg0_eq {e : Env} {t : Term} (h : 0 < t.args.length) : arg0 e t = atomV e t.args[0] := by
  unfold arg0; rw [getD_arg h]
theorem bound_i64 {c : Ctx} {w : World} {S : List Nat} {F V o i : Nat} {vl : List Int} {env : Env} (hF : Frm c w S F V o i vl env) {a : Atm} (hb : Bound vl env a) : I64 (atomV env a).n := by
  unfold atomV
  cases hv : a.var with
  | false => exact hb.1
  | true =>
    obtain ⟨j, v, h1, h2⟩ := hb.2 hv
    obtain ⟨p, _, h4⟩ := hF.slot j _ h1
    rw [h2] at h4 ⊢
    obtain ⟨_, _, _, _, _, h5, _⟩ := RVal.open h4
    exact h5
set_option maxRecDepth 100000 in
theorem does_clo {c : Ctx} {w : World} {S : List Nat} {steps : Nat} {s : St} {vw vs : Value} {sh : List Int} {F V o i : Nat} {vl : List Int} {env : Env} {tb to : Nat} {t : Term} (D : DoesIn c w S steps s vw vs sh F V o i vl env tb to t) (hk : t.kind = 9) :
    Calls Try.prog 55 #[.pointer (some ⟨c.M, 0, none⟩), .pointer (some ⟨tb, to, none⟩), .pointer (some ⟨F, 0, none⟩)] w (DoesPost c S w steps vs sh F V o i vl t (stepT t env s)) := by
  have hfm := D.fm
  rw [formedB_9 hk] at hfm
  obtain ⟨_, _, _, hal, hnl, hn0, hn1, hn2⟩ := of_decide_eq_true hfm
  have hst : stepT t env s = .next 0 (upd env t.x (.mk 3 t.n (t.args.map (atomV env)))) { s with made := s.made + (t.args.length + 1) } := by simp [stepT, hk]
  rw [hst]
  obtain ⟨j, hj⟩ := D.hx (by rw [hk]; rfl)
  obtain ⟨ab, ac, nb, nc, HA, hac, hnc, hnb, hnx, hc⟩ := next_at D.hT
  obtain ⟨nbb, nbo, rfl, hT0⟩ := hnx 0 (by omega)
  obtain ⟨q0, q1, q2, q5, q7⟩ := hc w (D.hM.ag D.ok)
  have HAT := Lib.hid (at_var D.ok D.hM D.hF hj)
  have hn64 : I64 t.n := ⟨by omega, by have := D.ok.vle; have := D.ok.cap; omega⟩
  have HOB := Lib.hid (fun (wx : World) (hb : Below w.heap.size w wx) => object_any D.ok (D.hM.later hb) (D.hF.later hb (D.hF.ltV D.hS)) (fun k hk => Nat.lt_of_lt_of_le (D.hS k hk) hb.size) D.hT D.hb (by omega) D.hmade (k := 3) ⟨by omega, by omega⟩ hn64 (fun _ => ⟨hn0, hn1⟩))
  have HD := Lib.hid D
  have hne := D.neV
  have HC := Lib.hid hc
  have HT0 := Lib.hid hT0
  rw [hk] at q0
  have hnl' : (0 : Int) < (t.next.length : Int) := by omega
  clear D hfm hst hc hnx hT0 hk HA
  go_enter Try.func55, Try.ntmps55
  go_wp2_with (first | (go_at_call 71; refine (HAT.out _ (Below.refl _ _)).mono ?_; rintro e w1 ⟨rfl, hb1⟩) |
    (go_at_call 72; refine (HOB.out _ hb1).mono ?_; rintro e w2 ⟨p, rfl, hk2, hr2, hM2, hF2⟩; obtain ⟨pb, rfl⟩ := rval_ptr hr2; obtain ⟨q, s1, s2⟩ := hF2.slot j _ hj; have z2 := hF2.fz (o + j); obtain ⟨r0, r1, r2, r5, r7⟩ := HC.out w2 (hM2.ag HD.out.ok)))
  go_ret
  have hE := ((Ext.below hb1 (S := S)).trans (Ext.of (hk2.wider (by intro k hk; simp at hk; subst hk; exact hM2.inS)))).trans (Ext.of (kept_setCell hF2.inV w2 (o + j) (.pointer (some ⟨pb, 0, none⟩))))
  exact ⟨nbb, nbo, rfl, ⟨by omega, by have := HT0.out; simpa using this⟩, S, vw, hE, fun k hk => Nat.lt_of_lt_of_le (HD.out.hS k hk) hE.kept.size, hM2.setSlot hF2.inV hF2.neV HD.out.sep.2.1 HD.out.sep.2.2.2 _ _, hF2.setSlot HD.out.nd hj hr2, HD.out.sep⟩
set_option maxRecDepth 100000 in
theorem does_write {c : Ctx} {w : World} {S : List Nat} {steps : Nat} {s : St} {vw vs : Value} {sh : List Int} {F V o i : Nat} {vl : List Int} {env : Env} {tb to : Nat} {t : Term} (D : DoesIn c w S steps s vw vs sh F V o i vl env tb to t) (hk : t.kind = 7) :
    Calls Try.prog 55 #[.pointer (some ⟨c.M, 0, none⟩), .pointer (some ⟨tb, to, none⟩), .pointer (some ⟨F, 0, none⟩)] w (DoesPost c S w steps vs sh F V o i vl t (stepT t env s)) := by
  have hfm := D.fm
  rw [formedB_7 hk] at hfm
  obtain ⟨_, _, _, _, _, hal, hnl⟩ := of_decide_eq_true hfm
  have ha0 : 0 < t.args.length := by omega
  obtain ⟨ab, ac, nb, nc, HA, hac, hnc, hnb, hnx, hc⟩ := next_at D.hT
  obtain ⟨nbb, nbo, rfl, hT0⟩ := hnx 0 (by omega)
  obtain ⟨q0, q1, q2, q5, q7⟩ := hc w (D.hM.ag D.ok)
  obtain ⟨ab1, ao1, rfl, hca⟩ := atm_at HA ha0
  obtain ⟨a0, a1⟩ := hca w (D.hM.ag D.ok)
  have hAt := atomAt D.ok D.hM D.hF D.hS t.args[0] (D.hb _ (List.getElem_mem ha0))
  have HD := Lib.hid D
  have HC := Lib.hid hc
  have HT0 := Lib.hid hT0
  rw [hk] at q0
  have hnl' : (0 : Int) < (t.next.length : Int) := by omega
  have hal' : (0 : Int) < (t.args.length : Int) := by omega
  by_cases hv : (atomV env t.args[0]).kind = 1
  · have HN := Lib.hid (number_ok hAt hv)
    by_cases hl : s.writes.length = 4096
    · have hst : stepT t env s = .stop false 4 [] s := by rw [stepT_7 hk, arg0_eq ha0, if_pos hv, if_pos hl]
      rw [hst]
      have HMO := Lib.hid (fun (wx : World) (hb : Below w.heap.size w wx) => more_no (x := (atomV env t.args[0]).n) (ownsRow_below HD.out.hM.ownW hb) hl)
      clear D hfm hst hc hnx hT0 hk HA hAt hca hv
      go_enter Try.func55, Try.ntmps55
      go_wp2_with (first | (go_at_call 69; refine HN.out.mono ?_; rintro e w1 ⟨rfl, hb1⟩; have c7 := (HD.out.hM.later hb1).c7) |
        (go_at_call 76; refine (HMO.out _ hb1).mono ?_; rintro e w2 ⟨rfl, hw2⟩; obtain rfl := hw2.symm))
      exact ⟨rfl, rfl, S, vw, vs, sh, Ext.below hb1, HD.out.hM.later hb1, fun _ h => by omega⟩
    · have hst : stepT t env s = .next 0 env { s with writes := s.writes ++ [(atomV env t.args[0]).n] } := by rw [stepT_7 hk, arg0_eq ha0, if_pos hv, if_neg hl]
      rw [hst]
      have hl' : s.writes.length < 4096 := by have := D.hM.lenW; omega
      have hx64 : I64 (atomV env t.args[0]).n := bound_i64 D.hF (D.hb _ (List.getElem_mem ha0))
      have HMO := Lib.hid (fun (wx : World) (hb : Below w.heap.size w wx) => more_ok (x := (atomV env t.args[0]).n) (ownsRow_below HD.out.hM.ownW hb) hl' (Nat.le_trans HD.out.hM.kept.size hb.size))
      clear D hfm hst hc hnx hT0 hk HA hAt hca hv
      go_enter Try.func55, Try.ntmps55
      go_wp2_with (first | (go_at_call 69; refine HN.out.mono ?_; rintro e w1 ⟨rfl, hb1⟩; have hM1 := HD.out.hM.later hb1; have c7 := hM1.c7; have HM1 := Lib.hid hM1; have hMr := Lib.hid (hM1.rowNe HD.out.ok).1; have ltM := hM1.ltM; have z7 := hM1.fz 7; clear hM1) |
        (go_at_call 76; refine (HMO.out _ hb1).mono ?_; rintro e w2 ⟨v', rfl, hp⟩; obtain ⟨g, cap, rfl⟩ := hp.some; have hMM := hp.gr.block c.M ltM (fun e => hMr.out e.symm); have d7 := (blk_cell hMM 7).trans c7; have e7 := (World.frozen?_of_block (a := ⟨c.M, 7, none⟩) hMM).trans z7; obtain ⟨hM3, hE3⟩ := HM1.out.pushW HD.out.ok hp hx64 hl'; have HM3 := Lib.hid hM3; obtain ⟨r0, r1, r2, r5, r7⟩ := HC.out _ (hM3.ag HD.out.ok); clear hM3 hMM))
      go_ret
      have hF1 := HD.out.hF.later hb1 (HD.out.hF.ltV HD.out.hS)
      have hS1 : ∀ k ∈ S, k < w1.heap.size := fun k hk => Nat.lt_of_lt_of_le (HD.out.hS k hk) hb1.size
      obtain ⟨p1, p2, p3, p4⟩ := HD.out.sep
      have hblk : ∀ k, k ∈ S → k ≠ c.M → vw.ownBlock ≠ some k → (w2.setCell ⟨c.M, 7, none⟩ (.slice (some ⟨g, 0, none⟩) (s.writes.length + 1) cap)).heap[k]? = w1.heap[k]? := fun k h1 h2 h3 =>
        (Below.heap_setCell w2 ⟨c.M, 7, none⟩ _ k h2).trans (hp.gr.block k (hS1 k h1) (fun e => h3 e.symm))
      have hF3 := hF1.same hE3.kept hE3.sub hE3.new (hblk F hF1.inF hF1.neF p1) (hblk V hF1.inV hF1.neV p2)
      have hnew : ∀ k, k ∈ S → vw.ownBlock ≠ some k → (Value.slice (some ⟨g, 0, none⟩) (s.writes.length + 1) cap).ownBlock ≠ some k := fun k h1 h2 e => (hp.new k e).elim h2 (fun h3 => by have := hS1 k h1; omega)
      exact ⟨nbb, nbo, rfl, ⟨by omega, by have := HT0.out; simpa using this⟩, _, _, (Ext.below hb1).trans hE3, fun k hk => by rw [size_setCell]; exact hp.newLt hS1 k hk, HM3.out, hF3, hnew F hF1.inF p1, hnew V hF1.inV p2, p3, p4⟩
  · have hst : stepT t env s = .stop true 0 [] s := by rw [stepT_7 hk, arg0_eq ha0, if_neg hv]
    rw [hst]
    have HN := Lib.hid (number_no hAt hv)
    clear D hfm hst hc hnx hT0 hk HA hAt hca hv
    go_enter Try.func55, Try.ntmps55
    go_wp2_with (go_at_call 69; refine HN.out.mono ?_; rintro e w1 ⟨rfl, hb1⟩)
    exact ⟨rfl, rfl, S, vw, vs, sh, Ext.below hb1, HD.out.hM.later hb1, fun h => by cases h⟩
theorem show_not1 : ∀ (v : Val) (l : List Int) (st : Bool) (en : Int), en = 1 → ¬ showV v l = .inl (st, en) := by
  intro v
  refine Val.ind (P := fun v => ∀ (l : List Int) (st : Bool) (en : Int), en = 1 → ¬ showV v l = .inl (st, en)) (fun v ih l st en he => ?_) v
  rw [showV_eq]
  split
  · intro h; injection h with h; injection h with _ h; omega
  · split
    · intro h; injection h with h; injection h with _ h; omega
    · have key : ∀ (r : List Val), (∀ u ∈ r, u ∈ v.args) → ∀ l, ¬ showVs r l = .inl (st, en) := by
        intro r
        induction r with
        | nil => intro _ l h; rw [showVs] at h; cases h
        | cons u r ihr =>
          intro hm l h
          rw [showVs] at h
          cases hu : showV u l with
          | inl e => rw [hu] at h; injection h with h; subst h; exact ih u (hm u List.mem_cons_self) l st en he hu
          | inr l' => rw [hu] at h; exact ihr (fun x hx => hm x (List.mem_cons_of_mem _ hx)) l' h
      exact key v.args (fun _ h => h) _
set_option maxRecDepth 100000 in
theorem does_halt {c : Ctx} {w : World} {S : List Nat} {steps : Nat} {s : St} {vw vs : Value} {sh : List Int} {F V o i : Nat} {vl : List Int} {env : Env} {tb to : Nat} {t : Term} (D : DoesIn c w S steps s vw vs sh F V o i vl env tb to t) (hsh : sh = []) (hk : t.kind = 8) :
    Calls Try.prog 55 #[.pointer (some ⟨c.M, 0, none⟩), .pointer (some ⟨tb, to, none⟩), .pointer (some ⟨F, 0, none⟩)] w (DoesPost c S w steps vs sh F V o i vl t (stepT t env s)) := by
  have hfm := D.fm
  rw [formedB_8 hk] at hfm
  obtain ⟨_, _, _, _, _, hal, hnl⟩ := of_decide_eq_true hfm
  have ha0 : 0 < t.args.length := by omega
  obtain ⟨ab, ac, nb, nc, HA, hac, hnc, hnb, hnx, hc⟩ := next_at D.hT
  obtain ⟨q0, q1, q2, q5, q7⟩ := hc w (D.hM.ag D.ok)
  obtain ⟨ab1, ao1, rfl, hca⟩ := atm_at HA ha0
  obtain ⟨a0, a1⟩ := hca w (D.hM.ag D.ok)
  have hAt := Lib.hid (atomAt D.ok D.hM D.hF D.hS t.args[0] (D.hb _ (List.getElem_mem ha0)))
  have HD := Lib.hid D
  have HC := Lib.hid hc
  rw [hk] at q0
  have hal' : (0 : Int) < (t.args.length : Int) := by omega
  have HSH := Lib.hid (show_any D.ok steps s vw (atomV env t.args[0]))
  have hst := stepT_8 hk env s
  rw [arg0_eq ha0] at hst
  rw [hst]
  subst hsh
  cases hs : showV (atomV env t.args[0]) [] with
  | inl en =>
    obtain ⟨st, en⟩ := en
    have HP : Hid (∀ (w1 w' : World) (e : Ending), Below w.heap.size w w1 → ShowPost c steps s vw S w1 (showV (atomV env t.args[0]) []) e w' → e = thrown st en ∧ DoesPost c S w steps vs [] F V o i vl t (.stop st en [] s) (thrown st en) w') := Lib.hid (fun w1 w' e hb h => by
      rw [hs] at h
      obtain ⟨rfl, S', vs', sh', h1, h2, h3⟩ := h
      refine ⟨rfl, rfl, S', vw, vs', sh', (Ext.below hb).trans h1, h3, fun e1 e2 => ?_⟩
      exact absurd hs (show_not1 _ _ _ _ e2))
    clear D hfm hst hc hnx hk HA hca hs
    go_enter Try.func55, Try.ntmps55
    go_wp2_with (first | (go_at_call 74; refine (hAt.out.plain _ (Below.refl _ _)).mono ?_; rintro e w1 ⟨p, rfl, hb1, hr1⟩) |
      (go_at_call 77; refine (HSH.out w1 S vs [] p (HD.out.hM.later hb1) (fun k hk => Nat.lt_of_lt_of_le (HD.out.hS k hk) hb1.size) hr1).mono ?_; intro e w2 h2; obtain ⟨rfl, h3⟩ := HP.out w1 w2 e hb1 h2))
    exact ⟨rfl, h3⟩
  | inr l =>
    have HP : Hid (∀ (w1 w' : World) (e : Ending), Below w.heap.size w w1 → ShowPost c steps s vw S w1 (showV (atomV env t.args[0]) []) e w' → e = .returned (.tuple #[]) ∧ DoesPost c S w steps vs [] F V o i vl t (.stop false 1 l s) (thrown false 1) w') := Lib.hid (fun w1 w' e hb h => by
      rw [hs] at h
      obtain ⟨rfl, S', vs', h1, h2, h3⟩ := h
      exact ⟨rfl, rfl, S', vw, vs', l, (Ext.below hb).trans h1, h3, fun _ _ => rfl⟩)
    clear D hfm hst hc hnx hk HA hca hs
    go_enter Try.func55, Try.ntmps55
    go_wp2_with (first | (go_at_call 74; refine (hAt.out.plain _ (Below.refl _ _)).mono ?_; rintro e w1 ⟨p, rfl, hb1, hr1⟩) |
      (go_at_call 77; refine (HSH.out w1 S vs [] p (HD.out.hM.later hb1) (fun k hk => Nat.lt_of_lt_of_le (HD.out.hS k hk) hb1.size) hr1).mono ?_; intro e w2 h2; obtain ⟨rfl, h3⟩ := HP.out w1 w2 e hb1 h2))
    exact ⟨rfl, h3⟩
set_option maxRecDepth 100000 in
theorem does_switch {c : Ctx} {w : World} {S : List Nat} {steps : Nat} {s : St} {vw vs : Value} {sh : List Int} {F V o i : Nat} {vl : List Int} {env : Env} {tb to : Nat} {t : Term} (D : DoesIn c w S steps s vw vs sh F V o i vl env tb to t) (hk : t.kind = 6) :
    Calls Try.prog 55 #[.pointer (some ⟨c.M, 0, none⟩), .pointer (some ⟨tb, to, none⟩), .pointer (some ⟨F, 0, none⟩)] w (DoesPost c S w steps vs sh F V o i vl t (stepT t env s)) := by
  have hfm := D.fm
  rw [formedB_6 hk] at hfm
  obtain ⟨_, _, _, hal, htg⟩ := of_decide_eq_true hfm
  have ha0 : 0 < t.args.length := by omega
  obtain ⟨ab, ac, nb, nc, HA, hac, hnc, hnb, hnx, hc⟩ := next_at D.hT
  obtain ⟨q0, q1, q2, q5, q7⟩ := hc w (D.hM.ag D.ok)
  obtain ⟨ab1, ao1, rfl, hca⟩ := atm_at HA ha0
  obtain ⟨a0, a1⟩ := hca w (D.hM.ag D.ok)
  have hAt := Lib.hid (atomAt D.ok D.hM D.hF D.hS t.args[0] (D.hb _ (List.getElem_mem ha0)))
  have HD := Lib.hid D
  have HC := Lib.hid hc
  rw [hk] at q0
  have hal' : (0 : Int) < (t.args.length : Int) := by omega
  have hst := stepT_6 hk env s
  rw [arg0_eq ha0] at hst
  rw [hst]
  have HT := Lib.hid D.hT
  have HAG := Lib.hid (fun w' (hb : Below w.heap.size w w') => (D.hM.later hb).ag D.ok)
  by_cases hc1 : (t.ints = true ∧ (atomV env t.args[0]).kind = 1) ∨ (t.ints = false ∧ (atomV env t.args[0]).kind = 2)
  · rw [if_pos hc1]
    by_cases hj : idxOf t.tags (atomV env t.args[0]).n < t.next.length
    · rw [if_pos hj]
      have HCH := Lib.hid (fun (w1 : World) (p : Value) (hb : Below w.heap.size w w1) (hr : RVal c.f.funs.length (memB S w1) p (atomV env t.args[0])) => (chosen_any HT.out (HAG.out w1 hb) hr hc1).mono (fun e w' h => (⟨h.1, by have h2 := h.2; rw [dif_pos hj] at h2; exact h2⟩ : Below w1.heap.size w1 w' ∧ ∃ b' o', e = .returned (.pointer (some ⟨b', o', none⟩)) ∧ TmAt c.m0 b' o' t.next[idxOf t.tags (atomV env t.args[0]).n])))
      clear D hfm hst hc hnx hk HA hca htg hc1
      go_enter Try.func55, Try.ntmps55
      go_wp2_with (first | (go_at_call 74; refine (hAt.out.plain _ (Below.refl _ _)).mono ?_; rintro e w1 ⟨p, rfl, hb1, hr1⟩) |
        (go_at_call 75; refine (HCH.out w1 p hb1 hr1).mono ?_; rintro e w2 ⟨hb2, b', o', rfl, hT'⟩))
      go_ret
      have hbb := bgo hb1 hb2
      exact ⟨b', o', rfl, ⟨hj, hT'⟩, S, vw, Ext.below hbb, fun k hk => Nat.lt_of_lt_of_le (HD.out.hS k hk) hbb.size, HD.out.hM.later hbb, HD.out.hF.later hbb (HD.out.hF.ltV HD.out.hS), HD.out.sep⟩
    · rw [if_neg hj]
      have HCH := Lib.hid (fun (w1 : World) (p : Value) (hb : Below w.heap.size w w1) (hr : RVal c.f.funs.length (memB S w1) p (atomV env t.args[0])) => (chosen_any HT.out (HAG.out w1 hb) hr hc1).mono (fun e w' h => (⟨h.1, by have h2 := h.2; rw [dif_neg hj] at h2; exact h2⟩ : Below w1.heap.size w1 w' ∧ e = thrown true 0)))
      clear D hfm hst hc hnx hk HA hca htg hc1
      go_enter Try.func55, Try.ntmps55
      go_wp2_with (first | (go_at_call 74; refine (hAt.out.plain _ (Below.refl _ _)).mono ?_; rintro e w1 ⟨p, rfl, hb1, hr1⟩) |
        (go_at_call 75; refine (HCH.out w1 p hb1 hr1).mono ?_; rintro e w2 ⟨hb2, rfl⟩))
      have hbb := bgo hb1 hb2
      exact ⟨rfl, rfl, S, vw, vs, sh, Ext.below hbb, HD.out.hM.later hbb, fun h => by cases h⟩
  · rw [if_neg hc1]
    have HCH := Lib.hid (fun (w1 : World) (p : Value) (hb : Below w.heap.size w w1) (hr : RVal c.f.funs.length (memB S w1) p (atomV env t.args[0])) => chosen_stuck HT.out (HAG.out w1 hb) hr hc1)
    clear D hfm hst hc hnx hk HA hca htg hc1
    go_enter Try.func55, Try.ntmps55
    go_wp2_with (first | (go_at_call 74; refine (hAt.out.plain _ (Below.refl _ _)).mono ?_; rintro e w1 ⟨p, rfl, hb1, hr1⟩) |
      (go_at_call 75; refine (HCH.out w1 p hb1 hr1).mono ?_; rintro e w2 ⟨rfl, hw2⟩; obtain rfl := hw2.symm))
    exact ⟨rfl, rfl, S, vw, vs, sh, Ext.below hb1, HD.out.hM.later hb1, fun h => by cases h⟩
end Go.Proofs.Ytjcgoohmhbgkiaa
