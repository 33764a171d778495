/- The machine: what a term does. Closures, writes, switches, the end. The machine: what a term does. Fields, what was closed over. The machine: what a term does. Operations. The machine: what a term does, whatever its kind. Where each variable of a function stands: places. Where each variable of a function stands: places, whole. The machine: the deferred function that takes up the stop. The machine, whole. -/
import Derived.Test.YtimljadlfhccpaaProg
import Derived.Test.YtimljadlfhccpaaMFk
import Derived.Deep.RegionHeld2
import Derived.Test.YtimljadlfhccpaaMJ
import Derived.Test.YtimljadlfhccpaaMF
import Derived.Laws.EntriesVeiled
import Derived.Defers
import Derived.Recover
set_option linter.all false
set_option linter.all false
set_option linter.all false
set_option linter.all false
namespace Go.Proofs.Ytimljadlfhccpaa
open Go.RowKit
set_option maxHeartbeats 800000

theorem atm_at {m : Mp} {ab : Option Addr} {ac : Nat} {l : List Atm} (h : RAtoms m (.slice ab l.length ac) l) (h0 : 0 < l.length) : ∃ b o, ab = some ⟨b, o, none⟩ ∧ ∀ w, Ag m w → w.cell? ⟨b, o, none⟩ = some (.bool l[0].var) ∧ w.cell? ⟨b, o + 1, none⟩ = some (.int .i64 l[0].n) := by
  obtain ⟨b, o, e, _, _, hc⟩ := atms_at h 0 h0
  exact ⟨b, o, e, fun w hw => by simpa using hc w hw⟩
theorem getD_arg {t : Term} (h : 0 < t.args.length) : t.args.getD 0 atm0 = t.args[0] := by simp [List.getD_eq_getElem?_getD, h]
def arg0 (e : Env) (t : Term) : Val := atomV e (t.args.getD 0 atm0)
def arg1 (e : Env) (t : Term) : Val := atomV e (t.args.getD 1 atm0)
theorem stepT_5 {t : Term} (h : t.kind = 5) (e : Env) (s : St) : stepT t e s = .call (t.args.map (atomV e)) s := by
  unfold stepT
  rw [if_pos h]
theorem stepT_1 {t : Term} (h : t.kind = 1) (e : Env) (s : St) : stepT t e s = if (arg0 e t).kind = 1 ∧ (arg1 e t).kind = 1 then (match doOp t.n (arg0 e t).n (arg1 e t).n with | none => .stop false 2 [] s | some r => .next 0 (upd e t.x (primV t.n r)) s) else .stop true 0 [] s := by
  unfold stepT
  rw [if_neg (by rw [h]; decide)]
  rw [if_pos h]
  try rfl
theorem stepT_2 {t : Term} (h : t.kind = 2) (e : Env) (s : St) : stepT t e s = .next 0 (upd e t.x (.mk 2 t.n (t.args.map (atomV e)))) { s with made := s.made + (t.args.length + 1) } := by
  unfold stepT
  rw [if_neg (by rw [h]; decide)]
  rw [if_neg (by rw [h]; decide)]
  rw [if_pos h]
theorem stepT_9 {t : Term} (h : t.kind = 9) (e : Env) (s : St) : stepT t e s = .next 0 (upd e t.x (.mk 3 t.n (t.args.map (atomV e)))) { s with made := s.made + (t.args.length + 1) } := by
  unfold stepT
  rw [if_neg (by rw [h]; decide)]
  rw [if_neg (by rw [h]; decide)]
  rw [if_neg (by rw [h]; decide)]
  rw [if_pos h]
theorem stepT_3 {t : Term} (h : t.kind = 3) (e : Env) (s : St) : stepT t e s = if (arg0 e t).kind = 2 ∧ t.n < (arg0 e t).args.length then .next 0 (upd e t.x ((arg0 e t).args.getD t.n.toNat nov)) s else .stop true 0 [] s := by
  unfold stepT
  rw [if_neg (by rw [h]; decide)]
  rw [if_neg (by rw [h]; decide)]
  rw [if_neg (by rw [h]; decide)]
  rw [if_neg (by rw [h]; decide)]
  rw [if_pos h]
  try rfl
theorem stepT_10 {t : Term} (h : t.kind = 10) (e : Env) (s : St) : stepT t e s = if (arg0 e t).kind = 3 ∧ t.n < (arg0 e t).args.length then .next 0 (upd e t.x ((arg0 e t).args.getD t.n.toNat nov)) s else .stop true 0 [] s := by
  unfold stepT
  rw [if_neg (by rw [h]; decide)]
  rw [if_neg (by rw [h]; decide)]
  rw [if_neg (by rw [h]; decide)]
  rw [if_neg (by rw [h]; decide)]
  rw [if_neg (by rw [h]; decide)]
  rw [if_pos h]
  try rfl
theorem stepT_6 {t : Term} (h : t.kind = 6) (e : Env) (s : St) : stepT t e s = if (t.ints = true ∧ (arg0 e t).kind = 1) ∨ (t.ints = false ∧ (arg0 e t).kind = 2) then (if idxOf t.tags (arg0 e t).n < t.next.length then .next (idxOf t.tags (arg0 e t).n) e s else .stop true 0 [] s) else .stop true 0 [] s := by
  unfold stepT
  rw [if_neg (by rw [h]; decide)]
  rw [if_neg (by rw [h]; decide)]
  rw [if_neg (by rw [h]; decide)]
  rw [if_neg (by rw [h]; decide)]
  rw [if_neg (by rw [h]; decide)]
  rw [if_neg (by rw [h]; decide)]
  rw [if_pos h]
  try rfl
theorem stepT_7 {t : Term} (h : t.kind = 7) (e : Env) (s : St) : stepT t e s = if (arg0 e t).kind = 1 then (if s.writes.length = 4096 then .stop false 4 [] s else .next 0 e { s with writes := s.writes ++ [(arg0 e t).n] }) else .stop true 0 [] s := by
  unfold stepT
  rw [if_neg (by rw [h]; decide)]
  rw [if_neg (by rw [h]; decide)]
  rw [if_neg (by rw [h]; decide)]
  rw [if_neg (by rw [h]; decide)]
  rw [if_neg (by rw [h]; decide)]
  rw [if_neg (by rw [h]; decide)]
  rw [if_neg (by rw [h]; decide)]
  rw [if_pos h]
  try rfl
theorem stepT_8 {t : Term} (h : t.kind = 8) (e : Env) (s : St) : stepT t e s = match showV (arg0 e t) [] with | .inl (st, en) => .stop st en [] s | .inr l => .stop false 1 l s := by
  unfold stepT
  rw [if_neg (by rw [h]; decide)]
  rw [if_neg (by rw [h]; decide)]
  rw [if_neg (by rw [h]; decide)]
  rw [if_neg (by rw [h]; decide)]
  rw [if_neg (by rw [h]; decide)]
  rw [if_neg (by rw [h]; decide)]
  rw [if_neg (by rw [h]; decide)]
  rw [if_neg (by rw [h]; decide)]
  try rfl
theorem arg0_eq {e : Env} {t : Term} (h : 0 < t.args.length) : arg0 e t = atomV e t.args[0] := by
  unfold arg0; rw [getD_arg h]
theorem bound_i64 {c : Ctx} {w : World} {S : List Nat} {F V o i : Nat} {vl : List Int} {env : Env} (hF : Frm c w S F V o i vl env) {a : Atm} (hb : Bound vl env a) : I64 (atomV env a).n := by
  unfold atomV
  cases hv : a.var with
  | false => exact hb.1
  | true =>
    obtain ⟨j, v, h1, h2⟩ := hb.2 hv
    obtain ⟨p, _, h4⟩ := hF.slot j _ h1
    rw [h2] at h4 ⊢
    obtain ⟨_, _, _, _, _, h5, _⟩ := RVal.open h4
    exact h5
theorem show_not1 : ∀ (v : Val) (l : List Int) (st : Bool) (en : Int), en = 1 → ¬ showV v l = .inl (st, en) := by
  intro v
  refine Val.ind (P := fun v => ∀ (l : List Int) (st : Bool) (en : Int), en = 1 → ¬ showV v l = .inl (st, en)) (fun v ih l st en he => ?_) v
  rw [showV_eq]
  split
  · intro h; injection h with h; injection h with _ h; omega
  · split
    · intro h; injection h with h; injection h with _ h; omega
    · have key : ∀ (r : List Val), (∀ u ∈ r, u ∈ v.args) → ∀ l, ¬ showVs r l = .inl (st, en) := by
        intro r
        induction r with
        | nil => intro _ l h; rw [showVs] at h; cases h
        | cons u r ihr =>
          intro hm l h
          rw [showVs] at h
          cases hu : showV u l with
          | inl e => rw [hu] at h; injection h with h; subst h; exact ih u (hm u List.mem_cons_self) l st en he hu
          | inr l' => rw [hu] at h; exact ihr (fun x hx => hm x (List.mem_cons_of_mem _ hx)) l' h
      exact key v.args (fun _ h => h) _
end Go.Proofs.Ytimljadlfhccpaa
set_option linter.all false
set_option linter.all false
set_option linter.all false
namespace Go.Proofs.Ytimljadlfhccpaa
open Go.RowKit
set_option maxHeartbeats 1600000

theorem atm_lt {c : Ctx} (ok : c.Ok) {V b o : Nat} {v : Value} (hV : V = c.M ∨ c.w1.heap.size ≤ V) (hne : V ≠ c.M) (h : c.w1.cell? ⟨b, o, none⟩ = some v) : ¬ V = b := by
  have h1 := World.block_lt_of_cell? c.w1 ⟨b, o, none⟩ h
  rcases hV with e | e
  · exact absurd e hne
  · intro e'
    have h2 : b < c.w1.heap.size := h1
    omega
end Go.Proofs.Ytimljadlfhccpaa
set_option linter.all false
set_option linter.all false
set_option linter.all false
namespace Go.Proofs.Ytimljadlfhccpaa
open Go.RowKit
set_option maxHeartbeats 1600000

theorem arg1_eq {e : Env} {t : Term} (h : 1 < t.args.length) : arg1 e t = atomV e t.args[1] := by
  unfold arg1; simp [List.getD_eq_getElem?_getD, h]
theorem atm_at1 {m : Mp} {b o : Nat} {ac : Nat} {l : List Atm} (h : RAtoms m (.slice (some ⟨b, o, none⟩) l.length ac) l) (h0 : 1 < l.length) : ∀ w, Ag m w → w.cell? ⟨b, o + 2, none⟩ = some (.bool l[1].var) ∧ w.cell? ⟨b, o + 3, none⟩ = some (.int .i64 l[1].n) := by
  obtain ⟨b', o', e, _, _, hc⟩ := atms_at h 1 h0
  cases e
  exact fun w hw => by simpa using hc w hw
end Go.Proofs.Ytimljadlfhccpaa
set_option linter.all false
set_option linter.all false
set_option linter.all false
namespace Go.Proofs.Ytimljadlfhccpaa
open Go.RowKit
set_option maxHeartbeats 400000

end Go.Proofs.Ytimljadlfhccpaa
set_option linter.all false
set_option linter.all false
namespace Go.Proofs.Ytimljadlfhccpaa
open Go.RowKit
set_option maxHeartbeats 1000000

theorem bindersTs_drop {l : List Term} {j : Nat} (hj : j < l.length) : bindersTs (l.drop j) = bindersT l[j] ++ bindersTs (l.drop (j + 1)) := by
  rw [List.drop_eq_getElem_cons hj, bindersTs]
/-- What looking at a term leaves: its variables have got their places. -/
structure Looked (w : World) (mb : Nat) (l : List Int) (e : Ending) (w' : World) : Prop where
  ret : e = .returned (.tuple #[])
  kept : Kept [mb] w w'
  map : IMap w' mb (numbered l)
theorem kinds_B (k : Int) : ((k == 1) = true) ∨ ((k == 1) = false ∧ (k == 2) = true) ∨ ((k == 1) = false ∧ (k == 2) = false ∧ (k == 3) = true) ∨ ((k == 1) = false ∧ (k == 2) = false ∧ (k == 3) = false ∧ (k == 9) = true) ∨
    ((k == 1) = false ∧ (k == 2) = false ∧ (k == 3) = false ∧ (k == 9) = false ∧ (k == 10) = true) ∨ ((k == 1) = false ∧ (k == 2) = false ∧ (k == 3) = false ∧ (k == 9) = false ∧ (k == 10) = false) := by
  cases (k == 1) <;> cases (k == 2) <;> cases (k == 3) <;> cases (k == 9) <;> cases (k == 10) <;> simp
theorem bindsB_of (k : Int) : bindsB k = ((k == 1) || (k == 2) || (k == 3) || (k == 9) || (k == 10)) := rfl
end Go.Proofs.Ytimljadlfhccpaa
set_option linter.all false
set_option linter.all false
namespace Go.Proofs.Ytimljadlfhccpaa
open Go.RowKit
set_option maxHeartbeats 1000000

structure Placed (w : World) (l : List Int) (e : Ending) (w' : World) : Prop where
  bel : Below w.heap.size w w'
  ret : ∃ mb, e = .returned (.map (some mb)) ∧ IMap w' mb (numbered l) ∧ w.heap.size ≤ mb
theorem BoxAt.new' (w : World) (cs : List Value) (t : TypeId) (b : Nat) (hb : b = w.heap.size) : BoxAt b (w.alloc (.cells cs.toArray t)) cs := hb ▸ BoxAt.new w cs t
end Go.Proofs.Ytimljadlfhccpaa
set_option linter.all false
set_option linter.all false
namespace Go.Proofs.Ytimljadlfhccpaa
open Go.RowKit
set_option maxHeartbeats 1000000

end Go.Proofs.Ytimljadlfhccpaa
set_option linter.all false
set_option linter.all false
set_option linter.all false
namespace Go.Proofs.Ytimljadlfhccpaa
open Go.RowKit
set_option maxHeartbeats 2000000

section
variable {c : Ctx} {w w' : World} {S : List Nat} {steps : Nat} {s : St} {vw vs : Value} {sh : List Int}
theorem ownsRow_kept {base : Nat} {e : TypeId} {size : Nat} {v : Value} {n : Nat} {xs : List Value} (h : w.ownsRow base e size v n xs) {R : Nat} (hk : Kept [R] w w') (hR : v.ownBlock ≠ some R) : w'.ownsRow base e size v n xs :=
  h.kept (row := some R) ⟨hk.os, hk.tape, hk.output, hk.size, fun k hk' hne => hk.block k hk' (by simpa using fun e => hne (by rw [e]))⟩ (by
    cases hv : v.ownBlock with
    | none => simp
    | some g => rw [hv] at hR; simpa using fun e => hR (by rw [e]))
theorem Mch.other (h : Mch c w S steps s vw vs sh) {R : Nat} (hk : Kept [R] w w') (hR : R ∉ S) (hR1 : c.w1.heap.size ≤ R) (hM : R ≠ c.M) : Mch c w' S steps s vw vs sh := by
  have hc : ∀ {j v}, w.cell? ⟨c.M, j, none⟩ = some v → w'.cell? ⟨c.M, j, none⟩ = some v := fun h => hk.cell h (by simpa using hM.symm)
  refine ⟨⟨hk.os.trans h.kept.os, hk.tape.trans h.kept.tape, hk.output.trans h.kept.output, Nat.le_trans h.kept.size hk.size, fun k h1 h2 => (hk.block k (Nat.lt_of_lt_of_le h1 h.kept.size) (by simp; omega)).trans (h.kept.block k h1 h2)⟩, h.inS, h.newS, hc h.c0, hc h.c1, hc h.c2, hc h.c3, hc h.c4, hc h.c5, hc h.c6, hc h.c7, hc h.c8, fun j => (World.frozen?_of_block (a := ⟨c.M, j, none⟩) (hk.block _ h.ltM (by simpa using hM.symm))).trans (h.fz j),
    ownsRow_kept h.ownW hk (fun e => hR (h.rowW _ e)), ownsRow_kept h.ownS hk (fun e => hR (h.rowS _ e)), h.rowW, h.rowS, h.sep, h.i64W, h.i64S, h.lenW, h.lenS⟩
end
/-- What the whole run leaves. -/
def WholePost (c : Ctx) (S : List Nat) (w : World) (fin : Fin') (e : Ending) (w' : World) : Prop :=
  e = .returned (.agg #[.int .i64 fin.e, .bool fin.stuck]) ∧ ∃ S' vw vs sh, Kept S w w' ∧ Mch c w' S' fin.steps fin.s vw vs sh ∧ (fin.stuck = false → fin.e = 1 → sh = fin.shows)
/-- What stands ahead of a round. -/
structure AtRun (c : Ctx) (w wr : World) (S0 S : List Nat) (F V o i : Nat) (env : Env) (tb to : Nat) (t : Term) (s : St) (vw vs : Value) (steps : Nat) (fin : Fin') : Prop where
  hi : i < c.f.funs.length
  hM : Mch c wr S steps s vw vs []
  hF : ∀ h : i < c.f.funs.length, Frm c wr S F V o i (placesF c.f.funs[i]) env
  hS : ∀ k ∈ S, k < wr.heap.size
  sep : Sep vw vs F V
  hT : TmAt c.m0 tb to t
  rd : ∀ h : i < c.f.funs.length, Ready c.f (placesF c.f.funs[i]) env t
  fuel : steps ≤ c.fuel
  work : s.work + tcount t ≤ (steps + 1) * 65536
  made : s.made ≤ 65 * s.work
  total : behind c.f (c.fuel - steps) steps (bodyT t env s) = fin
  ext : Ext S0 w S wr
/-- What a run that ends leaves. -/
def EndRun (c : Ctx) (w : World) (S : List Nat) (fin : Fin') (st : Bool) (en : Int) (w' : World) : Prop :=
  fin.e = en ∧ fin.stuck = st ∧ ∃ S' vw vs sh, Ext S w S' w' ∧ Mch c w' S' fin.steps fin.s vw vs sh ∧ (fin.stuck = false → fin.e = 1 → sh = fin.shows)
section
variable {c : Ctx} {w wr w1 : World} {S0 S : List Nat} {F V o i : Nat} {env : Env} {tb to : Nat} {t : Term} {s : St} {vw vs : Value} {steps : Nat} {fin : Fin'}
/-- One term more is counted. -/
theorem stepT_nocall {t : Term} {env : Env} {s s' : St} {l : List Val} (hk : ¬ t.kind = 5) : ¬ stepT t env s = .call l s' := by
  intro hst
  unfold stepT at hst
  rw [if_neg hk] at hst
  simp only at hst
  repeat' (split at hst)
  all_goals cases hst
theorem body_next {t : Term} {env env' : Env} {s s' : St} {j : Nat} (hst : stepT t env (worked s) = .next j env' s') (hj : j < t.next.length) : bodyT t env s = bodyT t.next[j] env' s' := by
  rw [bodyT_eq, hst]
  exact bodyTs_at _ _ _ _ _ (List.getElem?_eq_getElem hj)
theorem body_call {t : Term} {env : Env} {s : St} (hk : t.kind = 5) : bodyT t env s = .call (t.args.map (atomV env)) (worked s) := by
  rw [bodyT_eq, stepT_5 hk]
theorem AtRun.noFuel (A : AtRun c w wr S0 S F V o i env tb to t s vw vs steps fin) (hE : Ext S0 w S w1) (hk : t.kind = 5) (hf : steps = c.fuel) {w2 : World} (hM : Mch c w2 S steps (worked s) vw vs []) (hb : Below w1.heap.size w1 w2) : EndRun c w S0 fin false 3 w2 := by
  have hfin := A.total
  rw [body_call hk, show c.fuel - steps = 0 from by omega] at hfin
  subst hfin
  exact ⟨rfl, rfl, S, vw, vs, [], hE.trans (Ext.below hb), hM, fun _ h => by cases h⟩
theorem AtRun.badCall (A : AtRun c w wr S0 S F V o i env tb to t s vw vs steps fin) (hE : Ext S0 w S w1) (hk : t.kind = 5) (hf : steps < c.fuel) (hok : callOk c.f (t.args.map (atomV env)) = false) {w2 : World} (hM : Mch c w2 S (steps + 1) (worked s) vw vs []) (hb : Ext S w1 S w2) : EndRun c w S0 fin true 0 w2 := by
  have hfin := A.total
  obtain ⟨k, hk'⟩ : ∃ k, c.fuel - steps = k + 1 := ⟨c.fuel - steps - 1, by omega⟩
  rw [body_call hk, hk'] at hfin
  simp only [behind, hok] at hfin
  subst hfin
  exact ⟨rfl, rfl, S, vw, vs, [], hE.trans hb, hM, fun h => by cases h⟩
theorem AtRun.goCall (ok : c.Ok) (A : AtRun c w wr S0 S F V o i env tb to t s vw vs steps fin) (hE : Ext S0 w S w1) (hk : t.kind = 5) (hf : steps < c.fuel) (hok : callOk c.f (t.args.map (atomV env)) = true) {F' V' o' i' : Nat} {w2 : World} (hi : i' < c.f.funs.length) (hE2 : Ext S w1 (F' :: V' :: S) w2) (hS2 : ∀ k ∈ F' :: V' :: S, k < w2.heap.size)
    (hM2 : Mch c w2 (F' :: V' :: S) (steps + 1) (worked s) vw vs []) (hF2 : Frm c w2 (F' :: V' :: S) F' V' o' i' (placesF c.f.funs[i']) (bindEnv c.f.funs[i'].2.1 (t.args.map (atomV env)))) (hfa : funAt c.f (headN (t.args.map (atomV env))) = c.f.funs[i'])
    (hs : vw.ownBlock ≠ some F' ∧ vw.ownBlock ≠ some V' ∧ vs.ownBlock ≠ some F' ∧ vs.ownBlock ≠ some V') {b o2 : Nat} (hT : TmAt c.m0 b o2 c.f.funs[i'].2.2) {w3 : World} (hb : Below w2.heap.size w2 w3) :
    AtRun c w w3 S0 (F' :: V' :: S) F' V' o' i' (bindEnv c.f.funs[i'].2.1 (t.args.map (atomV env))) b o2 c.f.funs[i'].2.2 (worked s) vw vs (steps + 1) fin := by
  have hfin := A.total
  obtain ⟨k, hk'⟩ : ∃ k, c.fuel - steps = k + 1 := ⟨c.fuel - steps - 1, by omega⟩
  rw [body_call hk, hk'] at hfin
  simp only [behind, hok, if_true] at hfin
  rw [hfa, loopF_eq] at hfin
  have G := goodFlat_F ok.good
  have hwk := A.work
  have hmd := A.made
  have ht1 : 1 ≤ tcount t := by rw [tcount_eq]; omega
  have htc := G.tcount hi
  have hlen : c.f.funs[i'].2.1.length = (t.args.map (atomV env)).length := by
    cases hl : t.args.map (atomV env) with
    | nil => rw [hl] at hok; cases hok
    | cons v r =>
      rw [hl] at hok hfa
      simp only [callOk, Bool.and_eq_true, beq_iff_eq] at hok
      rw [← hok.2]
      exact congrArg (fun g => g.2.1.length) hfa.symm
  refine ⟨hi, hM2.later hb, fun _ => hF2.later hb (hS2 _ (by simp)), fun k hk => Nat.lt_of_lt_of_le (hS2 k hk) hb.size, hs, hT, fun _ => G.ready hi hlen, by omega, ?_, ?_, ?_, (hE.trans hE2).trans (Ext.below hb)⟩
  · show s.work + 1 + _ ≤ _
    have : (steps + 1 + 1) * 65536 = (steps + 1) * 65536 + 65536 := by omega
    omega
  · show s.made ≤ 65 * (s.work + 1); omega
  · rw [show c.fuel - (steps + 1) = k from by omega]; exact hfin
end
theorem rvals_single {nf : Nat} {m : Mp} {p : Value} {l : Val} (h : RVal nf m p l) : RVals nf m [p] [l] := RVals.snoc (RVals.nil _ _) h
theorem quiet_fun {c : Ctx} (ok : c.Ok) {i : Nat} (hi : i < c.f.funs.length) : ∃ b o, c.Fb = some ⟨b, o, none⟩ ∧ c.f.funs.length ≤ c.Fc ∧ c.f.funs.length ≤ 140737488355328 ∧ TmAt c.m0 b (o + i * 10 + 2) c.f.funs[i].2.2 := by
  obtain ⟨i', hi', e, _, b, o, pb, pc, h1, h2, h3, h4, _⟩ := funs_at ok (n := i) (by omega) (by omega)
  have : i' = i := by omega
  subst this
  exact ⟨b, o, h1, h2, h3, h4⟩
end Go.Proofs.Ytimljadlfhccpaa
