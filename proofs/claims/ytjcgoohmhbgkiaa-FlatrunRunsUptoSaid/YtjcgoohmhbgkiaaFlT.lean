/- The machine, whole. -/
import Derived.Test.YtjcgoohmhbgkiaaProg
import Derived.Test.YtjcgoohmhbgkiaaMFp
set_option linter.all false
set_option linter.all false
set_option linter.all false
namespace Go.Proofs.Ytjcgoohmhbgkiaa
open Go.RowKit
set_option maxHeartbeats 2000000

section
variable {c : Ctx} {w w' : World} {S : List Nat} {steps : Nat} {s : St} {vw vs : Value} {sh : List Int}
theorem ownsRow_kept {base : Nat} {e : TypeId} {size : Nat} {v : Value} {n : Nat} {xs : List Value} (h : w.ownsRow base e size v n xs) {R : Nat} (hk : Kept [R] w w') (hR : v.ownBlock ≠ some R) : w'.ownsRow base e size v n xs :=
  h.kept (row := some R) ⟨hk.os, hk.tape, hk.output, hk.size, fun k hk' hne => hk.block k hk' (by simpa using fun e => hne (by rw [e]))⟩ (by
    cases hv : v.ownBlock with
    | none => simp
    | some g => rw [hv] at hR; simpa using fun e => hR (by rw [e]))
theorem Mch.other (h : Mch c w S steps s vw vs sh) {R : Nat} (hk : Kept [R] w w') (hR : R ∉ S) (hR1 : c.w1.heap.size ≤ R) (hM : R ≠ c.M) : Mch c w' S steps s vw vs sh := by
  have hc : ∀ {j v}, w.cell? ⟨c.M, j, none⟩ = some v → w'.cell? ⟨c.M, j, none⟩ = some v := fun h => hk.cell h (by simpa using hM.symm)
  refine ⟨⟨hk.os.trans h.kept.os, hk.tape.trans h.kept.tape, hk.output.trans h.kept.output, Nat.le_trans h.kept.size hk.size, fun k h1 h2 => (hk.block k (Nat.lt_of_lt_of_le h1 h.kept.size) (by simp; omega)).trans (h.kept.block k h1 h2)⟩, h.inS, h.newS, hc h.c0, hc h.c1, hc h.c2, hc h.c3, hc h.c4, hc h.c5, hc h.c6, hc h.c7, hc h.c8, fun j => (World.frozen?_of_block (a := ⟨c.M, j, none⟩) (hk.block _ h.ltM (by simpa using hM.symm))).trans (h.fz j),
    ownsRow_kept h.ownW hk (fun e => hR (h.rowW _ e)), ownsRow_kept h.ownS hk (fun e => hR (h.rowS _ e)), h.rowW, h.rowS, h.sep, h.i64W, h.i64S, h.lenW, h.lenS⟩
end
/-- What the whole run leaves. -/
def WholePost (c : Ctx) (S : List Nat) (w : World) (fin : Fin') (e : Ending) (w' : World) : Prop :=
  e = .returned (.agg #[.int .i64 fin.e, .bool fin.stuck]) ∧ ∃ S' vw vs sh, Kept S w w' ∧ Mch c w' S' fin.steps fin.s vw vs sh ∧ (fin.stuck = false → fin.e = 1 → sh = fin.shows)
/-- What stands ahead of a round. -/
structure AtRun (c : Ctx) (w wr : World) (S0 S : List Nat) (F V o i : Nat) (env : Env) (tb to : Nat) (t : Term) (s : St) (vw vs : Value) (steps : Nat) (fin : Fin') : Prop where
  hi : i < c.f.funs.length
  hM : Mch c wr S steps s vw vs []
  hF : ∀ h : i < c.f.funs.length, Frm c wr S F V o i (placesF c.f.funs[i]) env
  hS : ∀ k ∈ S, k < wr.heap.size
  sep : Sep vw vs F V
  hT : TmAt c.m0 tb to t
  rd : ∀ h : i < c.f.funs.length, Ready c.f (placesF c.f.funs[i]) env t
  fuel : steps ≤ c.fuel
  work : s.work + tcount t ≤ (steps + 1) * 65536
  made : s.made ≤ 65 * s.work
  total : behind c.f (c.fuel - steps) steps (bodyT t env s) = fin
  ext : Ext S0 w S wr
set_option maxRecDepth 20000 in
theorem whole_end {R : Nat} {st : Bool} {en : Int} {Q : Ending → World → Prop} {tmps : Array Value} {w : World} (h4 : tmps[4]?.getD undef = .pointer (some ⟨R, 0, none⟩)) (h0 : w.cell? ⟨R, 0, none⟩ = some (.int .i64 0)) (h1 : w.cell? ⟨R, 1, none⟩ = some (.bool false)) (hz : ∀ j, w.frozen? ⟨R, j, none⟩ = false)
    (hQ : ∀ w', Kept [R] w w' → Q (.returned (.agg #[.int .i64 en, .bool st])) w') :
    bodyPostD Try.prog Try.f36 Q (.panic [{ v := stopV st en, recovered := false }]) { tmps := tmps, defers := [{ target := Target.fn (Fn.func 51) #[.pointer (some ⟨R, 0, none⟩)], args := #[] }] } w := by
  refine leaves_cons (f := 51) (args := #[.pointer (some ⟨R, 0, none⟩)]) (by simp) (by simp [go_sem]) ?_
  refine (catch_stop R st en 0 false [] _ h0 h1 hz).mono ?_
  rintro e u' w'' ⟨rfl, rfl, r0, r1, rk⟩
  have HQ := Lib.hid (hQ w'' rk)
  clear hQ
  simp [Leaves, settle, results, Try.results36, go_sem, h4, r0, r1]
  exact HQ.out
/-- What a run that ends leaves. -/
def EndRun (c : Ctx) (w : World) (S : List Nat) (fin : Fin') (st : Bool) (en : Int) (w' : World) : Prop :=
  fin.e = en ∧ fin.stuck = st ∧ ∃ S' vw vs sh, Ext S w S' w' ∧ Mch c w' S' fin.steps fin.s vw vs sh ∧ (fin.stuck = false → fin.e = 1 → sh = fin.shows)
theorem end_whole {c : Ctx} {w w' : World} {S : List Nat} {fin : Fin'} {st : Bool} {en : Int} {tmps : Array Value} (hS : ∀ k ∈ S, k < w.heap.size) (hw : c.w1.heap.size ≤ w.heap.size) (hM : c.M < w.heap.size)
    (E : EndRun c (w.alloc (.cells #[.int .i64 0, .bool false] 103)) S fin st en w') (h4 : tmps[4]?.getD undef = .pointer (some ⟨w.heap.size, 0, none⟩)) :
    bodyPostD Try.prog Try.f36 (WholePost c S w fin) (.panic [{ v := stopV st en, recovered := false }]) { tmps := tmps, defers := [{ target := Target.fn (Fn.func 51) #[.pointer (some ⟨w.heap.size, 0, none⟩)], args := #[] }] } w' := by
  obtain ⟨rfl, rfl, S', vw, vs, sh, hE, hMw, hsh⟩ := E
  have hb := BoxAt.new w [.int .i64 0, .bool false] 103
  have hlt : w.heap.size < (w.alloc (.cells #[.int .i64 0, .bool false] 103)).heap.size := hb.1
  have hR : w.heap.size ∉ S := fun h => by have := hS _ h; omega
  have hR' : w.heap.size ∉ S' := fun h => (hE.new _ h).elim hR (fun h2 => by omega)
  refine whole_end h4 (hE.kept.cell (hb.2 0 _ rfl) hR) (hE.kept.cell (hb.2 1 _ rfl) hR) (fun j => (World.frozen?_of_block (a := ⟨w.heap.size, j, none⟩) (hE.kept.block _ hlt hR)).trans ?_) (fun w2 hk => ?_)
  · exact frozen_cells (arr := #[.int .i64 0, .bool false]) (t := 103) (by rw [heap_alloc_new]) j
  · have hb1 := below_box w (.cells #[.int .i64 0, .bool false] 103)
    refine ⟨rfl, S', vw, vs, sh, ⟨hk.os.trans (hE.kept.os.trans hb1.os), hk.tape.trans (hE.kept.tape.trans hb1.tape), hk.output.trans (hE.kept.output.trans hb1.output), Nat.le_trans hb1.size (Nat.le_trans hE.kept.size hk.size), fun k h1 h2 => ?_⟩, hMw.other hk hR' hw (by omega), hsh⟩
    exact (hk.block k (Nat.lt_of_lt_of_le (Nat.lt_of_lt_of_le h1 hb1.size) hE.kept.size) (by simp; omega)).trans ((hE.kept.block k (Nat.lt_of_lt_of_le h1 hb1.size) h2).trans (hb1.block k h1))
section
variable {c : Ctx} {w wr w1 : World} {S0 S : List Nat} {F V o i : Nat} {env : Env} {tb to : Nat} {t : Term} {s : St} {vw vs : Value} {steps : Nat} {fin : Fin'}
/-- One term more is counted. -/
theorem work_one (ok : c.Ok) (A : AtRun c w wr S0 S F V o i env tb to t s vw vs steps fin) : Calls Try.prog 53 #[.pointer (some ⟨c.M, 2, none⟩), .int .i64 1] wr fun e w1 => e = .returned (.int .i64 (s.work + 1)) ∧
    (∃ vl, DoesIn c w1 S steps (worked s) vw vs [] F V o i vl env tb to t ∧ ∀ h : i < c.f.funs.length, vl = placesF c.f.funs[i]) ∧ Ext S0 w S w1 := by
  have hfu := ok.fuelb
  have hf := A.fuel
  have hwk := A.work
  have hmd := A.made
  refine (add_any A.hM.c2 (A.hM.fz 2) (by omega) (by omega) (by omega)).mono ?_
  rintro e w1 ⟨rfl, rfl⟩
  rw [show ((s.work : Int) + 1) = ((s.work + 1 : Nat) : Int) from by omega]
  have hn := ok.vars i A.hi
  refine ⟨rfl, ⟨placesF (c.f.funs[i]'A.hi), ⟨ok, A.hM.setWork ok (s.work + 1), (A.hF A.hi).setM A.hM.inS 2 _, fun k hk => by rw [size_setCell]; exact A.hS k hk, A.sep, A.hT, (A.rd A.hi).atoms, hn.2.2.2, (A.rd A.hi).binder, (A.rd A.hi).formed, by show s.made ≤ _; omega⟩, fun _ => rfl⟩, A.ext.trans (Ext.of (kept_setCell A.hM.inS wr 2 _))⟩
theorem stepT_nocall {t : Term} {env : Env} {s s' : St} {l : List Val} (hk : ¬ t.kind = 5) : ¬ stepT t env s = .call l s' := by
  intro hst
  unfold stepT at hst
  rw [if_neg hk] at hst
  simp only at hst
  repeat' (split at hst)
  all_goals cases hst
theorem body_next {t : Term} {env env' : Env} {s s' : St} {j : Nat} (hst : stepT t env (worked s) = .next j env' s') (hj : j < t.next.length) : bodyT t env s = bodyT t.next[j] env' s' := by
  rw [bodyT_eq, hst]
  exact bodyTs_at _ _ _ _ _ (List.getElem?_eq_getElem hj)
theorem AtRun.next (A : AtRun c w wr S0 S F V o i env tb to t s vw vs steps fin) {vl : List Int} (D : DoesIn c w1 S steps (worked s) vw vs [] F V o i vl env tb to t) (hvl : ∀ h : i < c.f.funs.length, vl = placesF c.f.funs[i]) (hE : Ext S0 w S w1) {j : Nat} {env' : Env} {s' : St}
    (hst : stepT t env (worked s) = .next j env' s') {e : Ending} {w2 : World} (h : DoesPost c S w1 steps vs [] F V o i vl t (.next j env' s') e w2) :
    ∃ b' o', e = .returned (.pointer (some ⟨b', o', none⟩)) ∧ ∃ hj : j < t.next.length, ∃ S' vw', AtRun c w w2 S0 S' F V o i env' b' o' t.next[j] s' vw' vs steps fin := by
  obtain ⟨b', o', rfl, ⟨hj, hT⟩, S', vw', hE', hS', hM', hF', hsep⟩ := h
  obtain ⟨n1, n2, n3, n4⟩ := stepT_next (A.rd A.hi) hst
  have hwk := A.work
  have hmd := A.made
  have htc := tcount_next hj
  have hw1 : s'.work = s.work + 1 := n1
  have hm1 : s'.made ≤ s.made + 65 := n2
  refine ⟨b', o', rfl, hj, S', vw', A.hi, hM', fun h => ?_, hS', hsep, hT, fun h => n4 hj, A.fuel, by omega, by omega, ?_, hE.trans hE'⟩
  · rw [← hvl h]; exact hF'
  · rw [← A.total, body_next hst hj]
theorem AtRun.stop (A : AtRun c w wr S0 S F V o i env tb to t s vw vs steps fin) {vl : List Int} (hE : Ext S0 w S w1) {st : Bool} {en : Int} {shows : List Int} {s' : St}
    (hst : stepT t env (worked s) = .stop st en shows s') {e : Ending} {w2 : World} (h : DoesPost c S w1 steps vs [] F V o i vl t (.stop st en shows s') e w2) : e = thrown st en ∧ EndRun c w S0 fin st en w2 := by
  obtain ⟨rfl, S', vw', vs', sh', hE', hM', hsh⟩ := h
  have hfin := A.total
  rw [bodyT_eq, hst] at hfin
  subst hfin
  exact ⟨rfl, rfl, rfl, S', vw', vs', sh', hE.trans hE', hM', hsh⟩
theorem body_call {t : Term} {env : Env} {s : St} (hk : t.kind = 5) : bodyT t env s = .call (t.args.map (atomV env)) (worked s) := by
  rw [bodyT_eq, stepT_5 hk]
theorem AtRun.noFuel (A : AtRun c w wr S0 S F V o i env tb to t s vw vs steps fin) (hE : Ext S0 w S w1) (hk : t.kind = 5) (hf : steps = c.fuel) {w2 : World} (hM : Mch c w2 S steps (worked s) vw vs []) (hb : Below w1.heap.size w1 w2) : EndRun c w S0 fin false 3 w2 := by
  have hfin := A.total
  rw [body_call hk, show c.fuel - steps = 0 from by omega] at hfin
  subst hfin
  exact ⟨rfl, rfl, S, vw, vs, [], hE.trans (Ext.below hb), hM, fun _ h => by cases h⟩
theorem AtRun.badCall (A : AtRun c w wr S0 S F V o i env tb to t s vw vs steps fin) (hE : Ext S0 w S w1) (hk : t.kind = 5) (hf : steps < c.fuel) (hok : callOk c.f (t.args.map (atomV env)) = false) {w2 : World} (hM : Mch c w2 S (steps + 1) (worked s) vw vs []) (hb : Ext S w1 S w2) : EndRun c w S0 fin true 0 w2 := by
  have hfin := A.total
  obtain ⟨k, hk'⟩ : ∃ k, c.fuel - steps = k + 1 := ⟨c.fuel - steps - 1, by omega⟩
  rw [body_call hk, hk'] at hfin
  simp only [behind, hok] at hfin
  subst hfin
  exact ⟨rfl, rfl, S, vw, vs, [], hE.trans hb, hM, fun h => by cases h⟩
theorem AtRun.goCall (ok : c.Ok) (A : AtRun c w wr S0 S F V o i env tb to t s vw vs steps fin) (hE : Ext S0 w S w1) (hk : t.kind = 5) (hf : steps < c.fuel) (hok : callOk c.f (t.args.map (atomV env)) = true) {F' V' o' i' : Nat} {w2 : World} (hi : i' < c.f.funs.length) (hE2 : Ext S w1 (F' :: V' :: S) w2) (hS2 : ∀ k ∈ F' :: V' :: S, k < w2.heap.size)
    (hM2 : Mch c w2 (F' :: V' :: S) (steps + 1) (worked s) vw vs []) (hF2 : Frm c w2 (F' :: V' :: S) F' V' o' i' (placesF c.f.funs[i']) (bindEnv c.f.funs[i'].2.1 (t.args.map (atomV env)))) (hfa : funAt c.f (headN (t.args.map (atomV env))) = c.f.funs[i'])
    (hs : vw.ownBlock ≠ some F' ∧ vw.ownBlock ≠ some V' ∧ vs.ownBlock ≠ some F' ∧ vs.ownBlock ≠ some V') {b o2 : Nat} (hT : TmAt c.m0 b o2 c.f.funs[i'].2.2) {w3 : World} (hb : Below w2.heap.size w2 w3) :
    AtRun c w w3 S0 (F' :: V' :: S) F' V' o' i' (bindEnv c.f.funs[i'].2.1 (t.args.map (atomV env))) b o2 c.f.funs[i'].2.2 (worked s) vw vs (steps + 1) fin := by
  have hfin := A.total
  obtain ⟨k, hk'⟩ : ∃ k, c.fuel - steps = k + 1 := ⟨c.fuel - steps - 1, by omega⟩
  rw [body_call hk, hk'] at hfin
  simp only [behind, hok, if_true] at hfin
  rw [hfa, loopF_eq] at hfin
  have G := goodFlat_F ok.good
  have hwk := A.work
  have hmd := A.made
  have ht1 : 1 ≤ tcount t := by rw [tcount_eq]; omega
  have htc := G.tcount hi
  have hlen : c.f.funs[i'].2.1.length = (t.args.map (atomV env)).length := by
    cases hl : t.args.map (atomV env) with
    | nil => rw [hl] at hok; cases hok
    | cons v r =>
      rw [hl] at hok hfa
      simp only [callOk, Bool.and_eq_true, beq_iff_eq] at hok
      rw [← hok.2]
      exact congrArg (fun g => g.2.1.length) hfa.symm
  refine ⟨hi, hM2.later hb, fun _ => hF2.later hb (hS2 _ (by simp)), fun k hk => Nat.lt_of_lt_of_le (hS2 k hk) hb.size, hs, hT, fun _ => G.ready hi hlen, by omega, ?_, ?_, ?_, (hE.trans hE2).trans (Ext.below hb)⟩
  · show s.work + 1 + _ ≤ _
    have : (steps + 1 + 1) * 65536 = (steps + 1) * 65536 + 65536 := by omega
    omega
  · show s.made ≤ 65 * (s.work + 1); omega
  · rw [show c.fuel - (steps + 1) = k from by omega]; exact hfin
end
theorem rvals_single {nf : Nat} {m : Mp} {p : Value} {l : Val} (h : RVal nf m p l) : RVals nf m [p] [l] := RVals.snoc (RVals.nil _ _) h
theorem quiet_fun {c : Ctx} (ok : c.Ok) {i : Nat} (hi : i < c.f.funs.length) : ∃ b o, c.Fb = some ⟨b, o, none⟩ ∧ c.f.funs.length ≤ c.Fc ∧ c.f.funs.length ≤ 140737488355328 ∧ TmAt c.m0 b (o + i * 10 + 2) c.f.funs[i].2.2 := by
  obtain ⟨i', hi', e, _, b, o, pb, pc, h1, h2, h3, h4, _⟩ := funs_at ok (n := i) (by omega) (by omega)
  have : i' = i := by omega
  subst this
  exact ⟨b, o, h1, h2, h3, h4⟩
set_option maxRecDepth 100000 in
theorem whole_any {c : Ctx} {w : World} {S : List Nat} {vw vs : Value} {p : Value} {l : Val} (ok : c.Ok) (hM : Mch c w S 0 ⟨0, 0, []⟩ vw vs []) (hS : ∀ k ∈ S, k < w.heap.size) (hv : vw.ownBlock = none) (hv' : vs.ownBlock = none) (hp : RVal c.f.funs.length (memB S w) p l) :
    Calls Try.prog 36 #[.pointer (some ⟨c.M, 0, none⟩), p] w (WholePost c S w (loopF c.f c.fuel (funAt c.f c.f.main).2.2 (bindEnv (funAt c.f c.f.main).2.1 [l]) 0 ⟨0, 0, []⟩)) := by
  have hmf : ∀ (fn : Fn) (first cap : Array Value) (w : World), (Instr.makeFunc fn first cap).run Try.prog w = .ok (.func fn first cap) w := fun _ _ _ _ => rfl
  have G := goodFlat_F ok.good
  obtain ⟨i, hmi⟩ : ∃ i : Nat, c.f.main = i := ⟨c.f.main.toNat, by have := G.m0; omega⟩
  have hi : i < c.f.funs.length := by have := G.m1; omega
  have hfa : funAt c.f c.f.main = c.f.funs[i] := by unfold funAt; rw [hmi]; simp [List.getD_eq_getElem?_getD, hi]
  obtain ⟨hn1, hn2, hn3, hn4, hn5, hn6, _⟩ := goodFun_parts (G.funs i hi)
  have hlen1 : c.f.funs[i].2.1.length = 1 := hn4 hmi.symm
  obtain ⟨pb, rfl⟩ := rval_ptr hp
  have hM1 := hM.later (below_box w (.cells #[.int .i64 0, .bool false] 103))
  have hM2 := hM1.later (below_box _ (.cells #[.pointer (some ⟨pb, 0, none⟩)] 90))
  have c4 := hM1.c4
  rw [hmi] at c4
  have ltM := hM1.ltM
  have hb2 : Below w.heap.size w ((w.alloc (.cells #[.int .i64 0, .bool false] 103)).alloc (.cells #[.pointer (some ⟨pb, 0, none⟩)] 90)) := bgo (below_box _ _) (below_box _ _)
  have hP2 := hp.mono (Ext.below (S := S) hb2).mem
  have hptr : Ptrs ((w.alloc (.cells #[.int .i64 0, .bool false] 103)).alloc (.cells #[.pointer (some ⟨pb, 0, none⟩)] 90)) (some ⟨w.heap.size + 1, 0, none⟩) [.pointer (some ⟨pb, 0, none⟩)] := fun _ => ⟨w.heap.size + 1, 0, rfl, fun j q hj => by
    have := (BoxAt.new' (w.alloc (.cells #[.int .i64 0, .bool false] 103)) [.pointer (some ⟨pb, 0, none⟩)] 90 (w.heap.size + 1) (by simp)).2 j q hj
    simpa using this⟩
  have HBG := Lib.hid (begun_any ok hM2 hi (cap := 1) hptr (rvals_single hP2) (by rw [hlen1]; rfl) (by simp) (by have := G.places hi; omega))
  obtain ⟨fb, fo, hFb, hFc, hFn, hT0⟩ := quiet_fun ok hi
  have HM2 := Lib.hid hM2
  have HB2 := Lib.hid hb2
  have HM := Lib.hid hM
  have HOK := Lib.hid ok
  have HMI := Lib.hid hmi
  have HFA := Lib.hid hfa
  have HG := Lib.hid G
  have HT0 := Lib.hid hT0
  have HFB := Lib.hid hFb
  have hi1 : (0 : Int) ≤ (i : Int) := by omega
  have hi2 : (i : Int) < (c.f.funs.length : Int) := by omega
  clear hM hM1 hM2 ok hmi hfa G hb2 hP2 hptr hT0 hFb hn1 hn2 hn3 hn4 hn5 hn6 hp
  go_enter_defers Try.func36, Try.ntmps36
  go_wp2_with (go_at_call 52; refine HBG.out.mono ?_; rintro e w3 ⟨F, V, o, rfl, hb3, hF1, hV1, hF2, hV2, hFr⟩; have hM3 := HM2.out.later hb3; have d3 := hM3.c3; have d4 := hM3.c4; rw [HMI.out] at d4; rw [HFB.out] at d3; have lt3 := hM3.ltM; have HB3 := Lib.hid hb3; have HF3 := Lib.hid hFr; have HV3 := Lib.hid (And.intro (And.intro hF1 hV1) (And.intro hF2 hV2)); clear hM3 hb3 hFr hF1 hV1 hF2 hV2)
  go_quiet (fail)
  go_wp2_with fail
  have HS := Lib.hid hS
  have hA : ∃ S', AtRun c (w.alloc (.cells #[.int .i64 0, .bool false] 103)) (w3.drewN nq) S S' F V o i (bindEnv c.f.funs[i].2.1 [l]) fb (fo + i * 10 + 2) c.f.funs[i].2.2 ⟨0, 0, []⟩ vw vs 0 (loopF c.f c.fuel (funAt c.f c.f.main).2.2 (bindEnv (funAt c.f c.f.main).2.1 [l]) 0 ⟨0, 0, []⟩) := by
    obtain ⟨⟨f1, v1⟩, f2, v2⟩ := HV3.out
    have f1' : w.heap.size + 1 + 1 ≤ F := by simpa using f1
    have v1' : w.heap.size + 1 + 1 ≤ V := by simpa using v1
    have hsz1 : (w.alloc (.cells #[.int .i64 0, .bool false] 103)).heap.size = w.heap.size + 1 := by simp
    have hb4 : Below (w.alloc (.cells #[.int .i64 0, .bool false] 103)).heap.size (w.alloc (.cells #[.int .i64 0, .bool false] 103)) w3 := bgo (below_box _ _) HB3.out
    have hnew : ∀ k ∈ F :: V :: S, k ∈ S ∨ w.heap.size + 1 ≤ k := fun k hk => by
      rcases List.mem_cons.1 hk with rfl | hk
      · exact .inr (by omega)
      · rcases List.mem_cons.1 hk with rfl | hk
        · exact .inr (by omega)
        · exact .inl hk
    have hlt : ∀ k ∈ F :: V :: S, k < w3.heap.size := fun k hk => by
      rcases List.mem_cons.1 hk with rfl | hk
      · exact f2
      · rcases List.mem_cons.1 hk with rfl | hk
        · exact v2
        · have h1 := HS.out k hk; have h2 := hb4.size; omega
    have hext : Ext S (w.alloc (.cells #[.int .i64 0, .bool false] 103)) (F :: V :: S) w3 := ⟨Kept.below hb4, fun k hk => List.mem_cons_of_mem _ (List.mem_cons_of_mem _ hk), fun k hk => by rw [hsz1]; exact hnew k hk⟩
    have hM3 : Mch c w3 (F :: V :: S) 0 ⟨0, 0, []⟩ vw vs [] := (HM2.out.later HB3.out).more (fun k hk => List.mem_cons_of_mem _ (List.mem_cons_of_mem _ hk)) (fun k hk => by
      rcases hnew k hk with h | h
      · exact .inl h
      · exact .inr (by have := HM.out.kept.size; omega))
    have hd : Below w3.heap.size w3 (w3.drewN nq) := below_drewN (Below.refl _ _) _
    have ht := HG.out.tcount hi
    have ht1 : 1 ≤ tcount c.f.funs[i].2.2 := by rw [tcount_eq]; omega
    refine ⟨F :: V :: S, hi, hM3.later hd, fun _ => HF3.out.later hd v2, hlt, ⟨by rw [hv]; simp, by rw [hv]; simp, by rw [hv']; simp, by rw [hv']; simp⟩, HT0.out, fun _ => HG.out.ready hi (by rw [hlen1]; rfl), by omega, by simpa using ht, by simp, ?_, hext.trans (Ext.below hd)⟩
    rw [HFA.out, loopF_eq]; rfl
  have HF := Lib.hid (rfl : loopF c.f c.fuel (funAt c.f c.f.main).2.2 (bindEnv (funAt c.f c.f.main).2.1 [l]) 0 ⟨0, 0, []⟩ = loopF c.f c.fuel (funAt c.f c.f.main).2.2 (bindEnv (funAt c.f c.f.main).2.1 [l]) 0 ⟨0, 0, []⟩)
  generalize loopF c.f c.fuel (funAt c.f c.f.main).2.2 (bindEnv (funAt c.f c.f.main).2.1 [l]) 0 ⟨0, 0, []⟩ = fin at *
  have HA := Lib.hid hA
  clear hA HV3 d3 d4 lt3 HB3 HF3 c4 ltM hlen1 hi1 hi2 HT0
  go_loopg [5, 6] (c.fuel * 65537 + tcount c.f.funs[i].2.2) (fun g x5 x6 wr => ∃ (S' : List Nat) (F V o i' : Nat) (env : Env) (tb to : Nat) (t : Term) (s : St) (vw' : Value) (steps : Nat), x5 = .pointer (some ⟨F, 0, none⟩) ∧ x6 = .pointer (some ⟨tb, to, none⟩) ∧ g = (c.fuel - steps) * 65537 + tcount t ∧
    Hid (AtRun c (w.alloc (.cells #[.int .i64 0, .bool false] 103)) wr S S' F V o i' env tb to t s vw' vs steps fin))
  case atStart =>
    obtain ⟨S', hA⟩ := HA.out
    exact ⟨S', F, V, o, i, _, fb, fo + i * 10 + 2, _, _, vw, 0, rfl, rfl, by simp, hA⟩
  case round =>
    clear HA
    obtain ⟨S', F, V, o, i', env, tb, to, t, s, vw', steps, rfl, rfl, hg, hA⟩ := hrel
    have HWK := Lib.hid (work_one HOK.out hA.out)
    have hsz := HM.out.kept.size
    have hlM := HM.out.ltM
    by_cases hk : t.kind = 5
    · have q5 : (t.kind == 5) = true := by rw [beq_iff_eq]; exact hk
      have HK := Lib.hid hk
      clear hk
      have hlen : t.args.length ≤ 1000 ∧ 0 < t.args.length := by
        have hfm := (hA.out.rd hA.out.hi).formed
        rw [formedB_5 HK.out] at hfm
        have h1 := of_decide_eq_true hfm
        exact ⟨by have := h1.2.2.2.2.2.2.1; omega, by have := h1.2.2.2.2.2.1; omega⟩
      obtain ⟨hl1, hl2⟩ := hlen
      by_cases hf : steps = c.fuel
      · have HFU := Lib.hid hf
        clear hf
        go_wp2_with (first | (go_at_call 53; refine HWK.out.mono ?_; rintro e w1 ⟨rfl, ⟨vl, hD, hvl⟩, hE1⟩; obtain ⟨ab, ac, nb, nc, HA', _, _, _, _, hc⟩ := next_at hD.hT; have q0 := (hc w1 (hD.hM.ag hD.ok)).1; have HD := Lib.hid hD; have HVL := Lib.hid hvl; have HE1 := Lib.hid hE1; clear hD hvl hE1 hc HA') | (go_at_call 54; refine (call_fuel HD.out.hM HFU.out).mono ?_; rintro e w2 ⟨rfl, hM2, hb2⟩))
        exact end_whole HS.out hsz hlM (hA.out.noFuel HE1.out HK.out HFU.out hM2 hb2) rfl
      have hf' : steps < c.fuel := by have := hA.out.fuel; omega
      cases hok : callOk c.f (t.args.map (atomV env)) with
      | false =>
        have HCO := Lib.hid hok
        clear hok
        go_wp2_with (first | (go_at_call 53; refine HWK.out.mono ?_; rintro e w1 ⟨rfl, ⟨vl, hD, hvl⟩, hE1⟩; obtain ⟨ab, ac, nb, nc, HA', _, _, _, _, hc⟩ := next_at hD.hT; have q0 := (hc w1 (hD.hM.ag hD.ok)).1; have HD := Lib.hid hD; have HVL := Lib.hid hvl; have HE1 := Lib.hid hE1; clear hD hvl hE1 hc HA') | (go_at_call 54; refine (call_bad HOK.out HD.out.hM HD.out.hF HD.out.hS HD.out.hT HD.out.hb hl1 hl2 hf' HCO.out).mono ?_; rintro e w2 ⟨rfl, hE2, hM2⟩))
        exact end_whole HS.out hsz hlM (hA.out.badCall HE1.out HK.out hf' HCO.out hM2 hE2) rfl
      | true =>
        have HCO := Lib.hid hok
        clear hok
        go_wp2_with (first | (go_at_call 53; refine HWK.out.mono ?_; rintro e w1 ⟨rfl, ⟨vl, hD, hvl⟩, hE1⟩; obtain ⟨ab, ac, nb, nc, HA', _, _, _, _, hc⟩ := next_at hD.hT; have q0 := (hc w1 (hD.hM.ag hD.ok)).1; have HD := Lib.hid hD; have HVL := Lib.hid hvl; have HE1 := Lib.hid hE1; clear hD hvl hE1 hc HA') | (go_at_call 54; refine (call_go HOK.out HD.out.hM HD.out.hF HD.out.hS HD.out.hT HD.out.hb hl1 hl2 hf' HCO.out (fun i h => by have := HG.out.places h; omega)).mono ?_; rintro e w2 ⟨F', V', o', i2, hi2, rfl, hE2, hS2, hM2, hF2, hfa2, hsp2⟩; obtain ⟨fb2, fo2, hFb2, _, _, hT2⟩ := quiet_fun HOK.out hi2; have d3 := hM2.c3; have d0 := hF2.c0; rw [hFb2] at d3; have lt3 := hM2.ltM; have ltF := hF2.ltF; have HR2 := Lib.hid (And.intro hE2 (And.intro hS2 (And.intro hM2 (And.intro hF2 (And.intro hfa2 (And.intro hsp2 hT2)))))); have i1 : (0 : Int) ≤ (i2 : Int) := (by omega); have i2' : (i2 : Int) < (c.f.funs.length : Int) := (by omega); clear hE2 hS2 hM2 hF2 hfa2 hsp2 hT2 hFb2))
        go_quiet (fail)
        go_wp2_with fail
        obtain ⟨hE2, hS2, hM2, hF2, hfa2, hsp2, hT2⟩ := HR2.out
        have htc := HG.out.tcount hi2
        have ht1 : 1 ≤ tcount t := by rw [tcount_eq]; omega
        go_roundg ((c.fuel - (steps + 1)) * 65537 + tcount c.f.funs[i2].2.2)
        case measure =>
          obtain ⟨k, hk⟩ : ∃ k, c.fuel - steps = k + 1 := ⟨c.fuel - steps - 1, by omega⟩
          rw [hg, hk, show c.fuel - (steps + 1) = k from by omega, Nat.add_mul]
          omega
        case rel => exact ⟨_, F', V', o', i2, _, fb2, fo2 + i2 * 10 + 2, _, _, vw', steps + 1, rfl, rfl, rfl, hA.out.goCall HOK.out HE1.out HK.out hf' HCO.out hi2 hE2 hS2 hM2 hF2 hfa2 hsp2 hT2 (below_drewN (Below.refl _ _) _)⟩
    · have q5 : (t.kind == 5) = false := by rw [beq_eq_false_iff_ne]; exact hk
      cases hst : stepT t env (worked s) with
      | call l s' => exact absurd hst (stepT_nocall hk)
      | next j env' s' =>
        have HST := Lib.hid hst
        clear hst
        go_wp2_with (first | (go_at_call 53; refine HWK.out.mono ?_; rintro e w1 ⟨rfl, ⟨vl, hD, hvl⟩, hE1⟩; obtain ⟨ab, ac, nb, nc, HA', _, _, _, _, hc⟩ := next_at hD.hT; have q0 := (hc w1 (hD.hM.ag hD.ok)).1; have HD := Lib.hid hD; have HVL := Lib.hid hvl; have HE1 := Lib.hid hE1; clear hD hvl hE1 hc HA') | (go_at_call 55; refine (does_any HD.out rfl hk).mono ?_; intro e w2 h2; rw [HST.out] at h2; obtain ⟨b', o', rfl, hj, S2, vw2, hA2⟩ := hA.out.next HD.out HVL.out HE1.out HST.out h2; have HA2 := Lib.hid hA2; clear hA2 h2))
        have htc := tcount_next hj
        go_roundg ((c.fuel - steps) * 65537 + tcount t.next[j])
        case measure => rw [hg]; omega
        case rel => exact ⟨_, F, V, o, i', _, b', o', _, _, vw2, steps, rfl, rfl, rfl, HA2.out⟩
      | stop st en shows s' =>
        have HST := Lib.hid hst
        clear hst
        go_wp2_with (first | (go_at_call 53; refine HWK.out.mono ?_; rintro e w1 ⟨rfl, ⟨vl, hD, hvl⟩, hE1⟩; obtain ⟨ab, ac, nb, nc, HA', _, _, _, _, hc⟩ := next_at hD.hT; have q0 := (hc w1 (hD.hM.ag hD.ok)).1; have HD := Lib.hid hD; have HVL := Lib.hid hvl; have HE1 := Lib.hid hE1; clear hD hvl hE1 hc HA') | (go_at_call 55; refine (does_any HD.out rfl hk).mono ?_; intro e w2 h2; rw [HST.out] at h2; obtain ⟨rfl, hA2⟩ := hA.out.stop HE1.out HST.out h2))
        exact end_whole HS.out hsz hlM hA2 rfl
end Go.Proofs.Ytjcgoohmhbgkiaa
