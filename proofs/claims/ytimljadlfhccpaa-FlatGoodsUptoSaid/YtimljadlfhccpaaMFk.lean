/- The machine: a call. The machine: what a term does. The frame's slots; objects. -/
import Derived.Test.YtimljadlfhccpaaProg
import Derived.Test.YtimljadlfhccpaaMFi
import Derived.Test.YtimljadlfhccpaaTailQ
set_option linter.all false
set_option linter.all false
set_option linter.all false
set_option linter.all false
namespace Go.Proofs.Ytimljadlfhccpaa
open Go.RowKit
set_option maxHeartbeats 800000

/-- What a call finds: its values, and the counter one more. -/
structure Called (c : Ctx) (w3 : World) (S : List Nat) (steps : Nat) (s : St) (vw vs : Value) (sh : List Int) (ao : Option Addr) (cap : Nat) (ps : List Value) (vals : List Val) : Prop where
  mch : Mch c w3 S (steps + 1) s vw vs sh
  ptrs : Ptrs w3 ao ps
  rv : RVals c.f.funs.length (memB S w3) ps vals
theorem ptrs_of {w : World} {base : Nat} {e : TypeId} {ao : Option Addr} {n cap : Nat} {ps : List Value} (h : w.ownsRow base e 1 (.slice ao n cap) n ps) : Ptrs w ao ps := by
  intro h0
  rcases h.2 with ⟨h1, h2⟩ | ⟨g, cap', cur, hv, _⟩
  · have := h.1; omega
  · injection hv with e1 e2 e3
    subst e1
    refine ⟨g, 0, rfl, fun j p hj => ?_⟩
    have := h.cells rfl j p hj
    rw [show (⟨g, 0, none⟩ : Addr).add j = ⟨g, 0 + j, none⟩ from by cases j <;> simp [Addr.add]] at this
    exact this
/-- The way up to the test. -/
theorem funs_at {c : Ctx} (ok : c.Ok) {n : Int} (h0 : 0 ≤ n) (hn : n < c.f.funs.length) : ∃ (i : Nat) (hi : i < c.f.funs.length), n = i ∧ funAt c.f n = c.f.funs[i] ∧ ∃ b o pb pc, c.Fb = some ⟨b, o, none⟩ ∧ c.f.funs.length ≤ c.Fc ∧ c.f.funs.length ≤ 140737488355328 ∧
    TmAt c.m0 b (o + i * 10 + 2) c.f.funs[i].2.2 ∧ ∀ w, Ag c.m0 w → w.cell? ⟨b, o + i * 10 + 1, none⟩ = some (.slice pb c.f.funs[i].2.1.length pc) := by
  obtain ⟨i, rfl⟩ : ∃ i : Nat, n = i := ⟨n.toNat, by omega⟩
  have hi : i < c.f.funs.length := by omega
  obtain ⟨fb, fcap, e, h1, h2, h3⟩ := ok.funs.opn
  cases e
  obtain ⟨b, o, pb, pc, h4, h5, _, h6⟩ := (h3.out i hi).tm
  refine ⟨i, hi, rfl, ?_, b, o, pb, pc, h4, h1, h2, h5, h6⟩
  unfold funAt
  simp [List.getD_eq_getElem?_getD, hi]
end Go.Proofs.Ytimljadlfhccpaa
set_option linter.all false
set_option linter.all false
namespace Go.Proofs.Ytimljadlfhccpaa
open Go.RowKit
set_option maxHeartbeats 800000

/-- The frame's blocks are none of what is told. -/
def Sep (vw vs : Value) (F V : Nat) : Prop := vw.ownBlock ≠ some F ∧ vw.ownBlock ≠ some V ∧ vs.ownBlock ≠ some F ∧ vs.ownBlock ≠ some V
section
variable {c : Ctx} {w w' : World} {S : List Nat} {steps : Nat} {s : St} {vw vs : Value} {sh : List Int} {F V o i : Nat} {vl : List Int} {env : Env}
theorem Mch.setSlot (h : Mch c w S steps s vw vs sh) (hV : V ∈ S) (hne : V ≠ c.M) (h1 : vw.ownBlock ≠ some V) (h2 : vs.ownBlock ≠ some V) (k : Nat) (p : Value) : Mch c (w.setCell ⟨V, k, none⟩ p) S steps s vw vs sh := by
  have hk2 := kept_setCell hV w k p
  have ho : ∀ j, (w.setCell ⟨V, k, none⟩ p).cell? ⟨c.M, j, none⟩ = w.cell? ⟨c.M, j, none⟩ := fun j => World.cell?_setCell_other _ _ _ _ (fun e => hne (congrArg Addr.block e))
  have hkM : Kept [c.M] c.w1 (w.setCell ⟨V, k, none⟩ p) := by
    refine ⟨hk2.os.trans h.kept.os, hk2.tape.trans h.kept.tape, hk2.output.trans h.kept.output, Nat.le_trans h.kept.size hk2.size, fun k hk hs => (hk2.block k (Nat.lt_of_lt_of_le hk h.kept.size) (fun hm => ?_)).trans (h.kept.block k hk hs)⟩
    rcases h.newS k hm with e | e
    · exact hs (by simp [e])
    · omega
  exact ⟨hkM, h.inS, h.newS, (ho 0).trans h.c0, (ho 1).trans h.c1, (ho 2).trans h.c2, (ho 3).trans h.c3, (ho 4).trans h.c4, (ho 5).trans h.c5, (ho 6).trans h.c6, (ho 7).trans h.c7, (ho 8).trans h.c8, fun j => by rw [World.frozen?_setCell]; exact h.fz j,
    ownsRow_setCell_other h.ownW h1 _, ownsRow_setCell_other h.ownS h2 _, h.rowW, h.rowS, h.sep, h.i64W, h.i64S, h.lenW, h.lenS⟩
theorem Frm.setSlot (h : Frm c w S F V o i vl env) (hnd : vl.Nodup) {j : Nat} {x : Int} (hj : vl[j]? = some x) {p : Value} {v : Val} (hp : RVal c.f.funs.length (memB S w) p v) : Frm c (w.setCell ⟨V, o + j, none⟩ p) S F V o i vl (upd env x v) := by
  obtain ⟨hjl, hjx⟩ := List.getElem?_eq_some_iff.1 hj
  have hm := (Ext.of (kept_setCell h.inV w (o + j) p)).mem
  have h0 : (⟨V, o + j, none⟩ : Addr) ≠ ⟨F, 0, none⟩ := by
    rcases h.out with h1 | ⟨h1, _⟩
    · exact fun e => h1 (congrArg Addr.block e)
    · intro e
      have h2 : o + j = 0 := congrArg Addr.off e
      omega
  have h25 : (⟨V, o + j, none⟩ : Addr) ≠ ⟨F, 25, none⟩ := by
    rcases h.out with h1 | ⟨h1, h2⟩
    · exact fun e => h1 (congrArg Addr.block e)
    · intro e
      have h3 : o + j = 25 := congrArg Addr.off e
      omega
  refine ⟨h.hi, h.vsEq, (World.cell?_setCell_other _ _ _ _ h0).trans h.c0, (World.cell?_setCell_other _ _ _ _ h25).trans h.cv, h.inF, h.inV, h.neF, h.neV, fun j' x' hj' => ?_, fun j => by rw [World.frozen?_setCell]; exact h.fz j, h.out, h.len⟩
  obtain ⟨q, h1, h2⟩ := h.slot j' x' hj'
  by_cases e : j' = j
  · subst e
    rw [hj] at hj'
    injection hj' with hj'
    subst hj'
    refine ⟨p, World.cell?_setCell_same _ _ _ h1, ?_⟩
    unfold upd
    rw [if_pos rfl]
    exact hp.mono hm
  · refine ⟨q, (World.cell?_setCell_other _ _ _ _ (fun e' => e (by have h3 : o + j = o + j' := congrArg Addr.off e'; omega))).trans h1, ?_⟩
    obtain ⟨hjl', hjx'⟩ := List.getElem?_eq_some_iff.1 hj'
    have hx : ¬ x' = x := fun ex => by
      have hp := List.pairwise_iff_getElem.1 hnd
      rcases Nat.lt_or_gt_of_ne e with h3 | h3
      · exact hp _ _ hjl' hjl h3 (by rw [hjx, hjx', ex])
      · exact hp _ _ hjl hjl' h3 (by rw [hjx, hjx', ex])
    unfold upd
    rw [if_neg hx]
    exact h2.mono hm
end
/-- What stands ahead of a term. -/
structure DoesIn (c : Ctx) (w : World) (S : List Nat) (steps : Nat) (s : St) (vw vs : Value) (sh : List Int) (F V o i : Nat) (vl : List Int) (env : Env) (tb to : Nat) (t : Term) : Prop where
  ok : c.Ok
  hM : Mch c w S steps s vw vs sh
  hF : Frm c w S F V o i vl env
  hS : ∀ k ∈ S, k < w.heap.size
  sep : Sep vw vs F V
  hT : TmAt c.m0 tb to t
  hb : ∀ a ∈ t.args, Bound vl env a
  nd : vl.Nodup
  hx : bindsB t.kind = true → ∃ j : Nat, vl[j]? = some t.x
  fm : formedB c.f.funs.length c.f.main t = true
  hmade : s.made ≤ 1000000000000000000
theorem Kept.wider {S S' : List Nat} {a b : World} (h : Kept S a b) (hs : ∀ k ∈ S, k ∈ S') : Kept S' a b := ⟨h.os, h.tape, h.output, h.size, fun k hk hn => h.block k hk (fun hm => hn (hs k hm))⟩
theorem DoesIn.neV {c : Ctx} {w : World} {S : List Nat} {steps : Nat} {s : St} {vw vs : Value} {sh : List Int} {F V o i : Nat} {vl : List Int} {env : Env} {tb to : Nat} {t : Term} (D : DoesIn c w S steps s vw vs sh F V o i vl env tb to t) : ¬ V = tb := by
  obtain ⟨_, _, _, _, _, _, _, _, _, h⟩ := D.hT
  have h1 := World.block_lt_of_cell? c.w1 ⟨tb, to, none⟩ (h c.w1 D.ok.ag).1
  rcases D.hM.newS V D.hF.inV with e | e
  · exact absurd e D.hF.neV
  · intro e'
    have h2 : tb < c.w1.heap.size := h1
    omega
/-- What a term that is done leaves. -/
theorem next_at {c : Ctx} {tb to : Nat} {t : Term} (hT : TmAt c.m0 tb to t) : ∃ ab ac nb nc, RAtoms c.m0 (.slice ab t.args.length ac) t.args ∧ t.args.length ≤ ac ∧ t.next.length ≤ nc ∧ t.next.length ≤ 140737488355328 ∧ (∀ j (hj : j < t.next.length), ∃ b o, nb = some ⟨b, o, none⟩ ∧ TmAt c.m0 b (o + j * 8) t.next[j]) ∧
    ∀ w, Ag c.m0 w → w.cell? ⟨tb, to, none⟩ = some (.int .i64 t.kind) ∧ w.cell? ⟨tb, to + 1, none⟩ = some (.int .i64 t.x) ∧ w.cell? ⟨tb, to + 2, none⟩ = some (.int .i64 t.n) ∧ w.cell? ⟨tb, to + 5, none⟩ = some (.slice ab t.args.length ac) ∧ w.cell? ⟨tb, to + 7, none⟩ = some (.slice nb t.next.length nc) := by
  obtain ⟨tb', tc, ab, ac, fb, fc, nb, nc, O, hc⟩ := hT.opn
  have ha := O.args
  obtain ⟨⟨base, cap, hv, h1, _⟩, _⟩ := id ha
  injection hv with e1 e2 e3
  subst e3
  exact ⟨ab, ac, nb, nc, ha, h1, O.nle, O.nbd, fun j hj => (O.nextAt j hj).tm, fun w hw => by obtain ⟨q0, q1, q2, q3, q4, q5, q6, q7⟩ := hc w hw; exact ⟨q0, q1, q2, q5, q7⟩⟩
end Go.Proofs.Ytimljadlfhccpaa
