/- The machine's small functions: want, the counters. A region that draws its order, whose operations read what was there, and whose calls tell one value and leave what was there as it was: one walk, in the order of the text. The machine in memory; a variable's place; an atom's value. The machine: numbers, parts, what an operation tells, what a switch goes on with. The machine: what a switch goes on with; a number more of what is told. -/
import Derived.Test.YtimljadlfhccpaaProg
import Derived.Test.YtimljadlfhccpaaMJ
import Derived.WalkKit
import Derived.WalkLawsBesides
import Derived.WalkSmall
import Derived.Lib.Hide
import Derived.Deep.QuietTactic
import Derived.Deep.LoopGhost
import Derived.BigQuiet
import Derived.Outline
import Derived.Laws.LoneSync
import Derived.Test.YtimljadlfhccpaaMP
import Derived.Test.YtimljadlfhccpaaMA
set_option linter.all false
set_option linter.all false
set_option linter.all false
set_option linter.all false
namespace Go.Proofs.Ytimljadlfhccpaa
open Go.RowKit
set_option maxHeartbeats 400000

end Go.Proofs.Ytimljadlfhccpaa
namespace Go.Proofs.Ytimljadlfhccpaa
open Go.RowKit

/-- A world in which all that was in w is as it was. -/
def Later (w : World) : Type := { x : World // Below w.heap.size w x }
instance (w : World) : Nonempty (Later w) := ⟨⟨w, Below.refl _ _⟩⟩
theorem wp_region_later {P : Program} {id : Nat} {Q : Exit → Act → World → Prop} {a : Act} {w : World} {l : List Oper} (hm : P.follows .mixedOrders = true) (hB : Region.lexB .any l.toArray = true)
    (h : wpQuiet P l.toArray (fun w' => ∃ s : Later w, w' = s.val) (fun a' => ∀ w', (∃ s : Later w, w' = s.val) → Q .normal a' w') l a) : (Code.region id l.toArray true).wp P Q a w :=
  wp_region_quiet (C := fun w' => ∃ s : Later w, w' = s.val) hm hB ⟨⟨w.drew, (Below.refl _ _).drew⟩, rfl⟩ (by simpa using h)
theorem later_cell (w : World) : ∀ (s : Later w) (b o : Nat), b < w.heap.size → s.val.cell? ⟨b, o, none⟩ = w.cell? ⟨b, o, none⟩ := fun s b o h => s.property.cell (p := ⟨b, o, none⟩) h
theorem Calls.later_of {P : Program} {f : FuncId} {args : Array Value} {w : World} {s : Later w} {v : Value}
    (h : Calls P f args s.val fun e w' => e = .returned v ∧ Below s.val.heap.size s.val w') : Calls P f args s.val fun e w'' => e = .returned v ∧ ∃ s' : Later w, w'' = s'.val :=
  h.mono fun _ w' ⟨he, hb⟩ => ⟨he, ⟨w', bgo s.property hb⟩, rfl⟩
end Go.Proofs.Ytimljadlfhccpaa
namespace Go.Proofs.Ytimljadlfhccpaa
open Go.RowKit
set_option maxHeartbeats 600000

structure Ctx where
  m0 : Mp
  M : Nat
  f : Flat
  Fb : Option Addr
  Fc : Nat
  fuel : Nat
  w1 : World
  VB : Nat
  Vc : Nat
  mb : Nat → Nat
def Ctx.nf (c : Ctx) : Nat := c.f.funs.length
/-- What stood when the machine was begun. -/
structure Ctx.Ok (c : Ctx) : Prop where
  ag : Ag c.m0 c.w1
  off : ∀ a v, c.m0 a = some v → a.block ≠ c.M
  lt : c.M < c.w1.heap.size
  good : goodFlat c.f = true
  funs : RFuns c.m0 (.slice c.Fb c.f.funs.length c.Fc) c.f.funs
  main : I64 c.f.main
  ne : c.VB ≠ c.M
  vle : c.f.funs.length ≤ c.Vc
  cap : c.f.funs.length ≤ 140737488355328
  fuelb : c.fuel ≤ 1048576
  vars : ∀ i (h : i < c.f.funs.length), c.w1.cell? ⟨c.VB, i, none⟩ = some (.map (some (c.mb i))) ∧ IMap c.w1 (c.mb i) (numbered (placesF c.f.funs[i])) ∧ c.mb i ≠ c.M ∧ (placesF c.f.funs[i]).Nodup
/-- The machine in memory. -/
structure Mch (c : Ctx) (w : World) (S : List Nat) (steps : Nat) (s : St) (vw vs : Value) (sh : List Int) : Prop where
  kept : Kept [c.M] c.w1 w
  inS : c.M ∈ S
  newS : ∀ k ∈ S, k = c.M ∨ c.w1.heap.size ≤ k
  c0 : w.cell? ⟨c.M, 0, none⟩ = some (.int .i64 steps)
  c1 : w.cell? ⟨c.M, 1, none⟩ = some (.int .i64 s.made)
  c2 : w.cell? ⟨c.M, 2, none⟩ = some (.int .i64 s.work)
  c3 : w.cell? ⟨c.M, 3, none⟩ = some (.slice c.Fb c.f.funs.length c.Fc)
  c4 : w.cell? ⟨c.M, 4, none⟩ = some (.int .i64 c.f.main)
  c5 : w.cell? ⟨c.M, 5, none⟩ = some (.slice (some ⟨c.VB, 0, none⟩) c.f.funs.length c.Vc)
  c6 : w.cell? ⟨c.M, 6, none⟩ = some (.int .i64 c.fuel)
  c7 : w.cell? ⟨c.M, 7, none⟩ = some vw
  c8 : w.cell? ⟨c.M, 8, none⟩ = some vs
  fz : ∀ j, w.frozen? ⟨c.M, j, none⟩ = false
  ownW : w.ownsRow c.w1.heap.size 3 1 vw s.writes.length (s.writes.map (.int .i64))
  ownS : w.ownsRow c.w1.heap.size 3 1 vs sh.length (sh.map (.int .i64))
  rowW : ∀ k, vw.ownBlock = some k → k ∈ S
  rowS : ∀ k, vs.ownBlock = some k → k ∈ S
  sep : vw.ownBlock = none ∨ vw.ownBlock ≠ vs.ownBlock
  i64W : ∀ x ∈ s.writes, I64 x
  i64S : ∀ x ∈ sh, I64 x
  lenW : s.writes.length ≤ 4096
  lenS : sh.length ≤ 4096
/-- A frame in memory: block F; its values from cell o of block V. -/
structure Frm (c : Ctx) (w : World) (S : List Nat) (F V o i : Nat) (vs : List Int) (env : Env) : Prop where
  hi : i < c.f.funs.length
  vsEq : ∀ h : i < c.f.funs.length, vs = placesF c.f.funs[i]
  c0 : w.cell? ⟨F, 0, none⟩ = some (.int .i64 i)
  cv : w.cell? ⟨F, 25, none⟩ = some (.slice (some ⟨V, o, none⟩) vs.length vs.length)
  inF : F ∈ S
  inV : V ∈ S
  neF : F ≠ c.M
  neV : V ≠ c.M
  slot : ∀ (j : Nat) (x : Int), vs[j]? = some x → ∃ p, w.cell? ⟨V, o + j, none⟩ = some p ∧ ROpt c.f.funs.length (memB S w) p (env x)
  fz : ∀ j, w.frozen? ⟨V, j, none⟩ = false
  out : V ≠ F ∨ (o = 1 ∧ vs.length ≤ 24)
  len : vs.length ≤ 1000000
section
variable {c : Ctx} {w w' : World} {S : List Nat} {steps : Nat} {s : St} {vw vs : Value} {sh : List Int} {F V o i : Nat} {vl : List Int} {env : Env}
theorem Mch.ag (h : Mch c w S steps s vw vs sh) (ok : c.Ok) : Ag c.m0 w := by
  intro a v ha
  exact h.kept.cell (ok.ag a v ha) (by simpa using ok.off a v ha)
theorem Mch.ltM (h : Mch c w S steps s vw vs sh) : c.M < w.heap.size := World.block_lt_of_cell? w ⟨c.M, 0, none⟩ h.c0
theorem frozen_below {B : Nat} {a b : World} (h : Below B a b) {k j : Nat} (hk : k < B) (hz : a.frozen? ⟨k, j, none⟩ = false) : b.frozen? ⟨k, j, none⟩ = false :=
  (World.frozen?_of_block (a := ⟨k, j, none⟩) (h.block k hk)).trans hz
theorem ownsRow_below {w w' : World} {base : Nat} {e : TypeId} {size : Nat} {v : Value} {n : Nat} {xs : List Value} (h : w.ownsRow base e size v n xs) (hb : Below w.heap.size w w') : w'.ownsRow base e size v n xs :=
  h.kept (row := none) ⟨hb.os, hb.tape, hb.output, hb.size, fun k hk _ => hb.block k hk⟩ (by cases v.ownBlock <;> simp)
theorem Mch.later (h : Mch c w S steps s vw vs sh) (hb : Below w.heap.size w w') : Mch c w' S steps s vw vs sh := by
  have hM := h.ltM
  exact ⟨h.kept.trans (Kept.below hb), h.inS, h.newS, (hb.cell hM).trans h.c0, (hb.cell hM).trans h.c1, (hb.cell hM).trans h.c2, (hb.cell hM).trans h.c3, (hb.cell hM).trans h.c4, (hb.cell hM).trans h.c5, (hb.cell hM).trans h.c6,
    (hb.cell hM).trans h.c7, (hb.cell hM).trans h.c8, fun j => frozen_below hb hM (h.fz j), ownsRow_below h.ownW hb, ownsRow_below h.ownS hb, h.rowW, h.rowS, h.sep, h.i64W, h.i64S, h.lenW, h.lenS⟩
theorem Frm.ltF (h : Frm c w S F V o i vl env) : F < w.heap.size := World.block_lt_of_cell? w ⟨F, 0, none⟩ h.c0
theorem Frm.later (h : Frm c w S F V o i vl env) (hb : Below w.heap.size w w') (hV : V < w.heap.size) : Frm c w' S F V o i vl env := by
  have hF := h.ltF
  refine ⟨h.hi, h.vsEq, (hb.cell hF).trans h.c0, (hb.cell hF).trans h.cv, h.inF, h.inV, h.neF, h.neV, fun j x hj => ?_, fun j => frozen_below hb hV (h.fz j), h.out, h.len⟩
  obtain ⟨p, h1, h2⟩ := h.slot j x hj
  exact ⟨p, (hb.cell hV).trans h1, h2.mono (Ext.below hb).mem⟩
/-- The cells that 'at' reads. -/
theorem Mch.varsAt (h : Mch c w S steps s vw vs sh) (ok : c.Ok) (hi : i < c.f.funs.length) : w.cell? ⟨c.VB, i, none⟩ = some (.map (some (c.mb i))) ∧ IMap w (c.mb i) (numbered (placesF c.f.funs[i])) := by
  obtain ⟨h1, h2, h3, _⟩ := ok.vars i hi
  exact ⟨h.kept.cell h1 (by simpa using ok.ne), h2.same (h.kept.block _ h2.lt (by simpa using h3))⟩
end
/-- A variable of the frame: its place. -/
theorem atomI_new (nf : Nat) (S : List Nat) (w : World) (n : Int) (hn : I64 n) (hS : w.heap.size ∉ S) (t : TypeId) (b : Nat) (hb : b = w.heap.size) :
    RVal nf (memB S (w.alloc (.cells #[.int .i64 1, .int .i64 n, .slice none 0 0] t))) (.pointer (some ⟨b, 0, none⟩)) (.mk 1 n []) := by
  subst hb
  refine .mk 1 n [] _ (.slice none 0 0) (fun _ => .slice none 0 0) ⟨by omega, by omega⟩ hn (by omega) ?_ ⟨none, 0, rfl, by simp, by simp, by simp⟩ (by simp)
  intro j v hj
  unfold memB
  rw [if_neg hS, World.cell?_alloc_new]
  match j, hj with
  | 0, hj => simpa using hj
  | 1, hj => simpa using hj
  | 2, hj => simpa using hj
  | j + 3, hj => simp at hj
theorem mem_sub {S S' : List Nat} {w w' : World} (hk : Kept S w w') (hn : ∀ k ∈ S', k ∈ S ∨ w.heap.size ≤ k) : ∀ a v, memB S w a = some v → memB S' w' a = some v := by
  intro a v ha
  unfold memB at ha ⊢
  split at ha
  · cases ha
  · rename_i hs
    have hlt := World.block_lt_of_cell? w a ha
    rw [if_neg (fun hm => (hn _ hm).elim hs (fun h2 => by omega))]
    exact hk.cell ha hs
/-- What stands ahead of an atom: its variable is bound. -/
def Bound (vl : List Int) (env : Env) (a : Atm) : Prop := I64 a.n ∧ (a.var = true → ∃ (j : Nat) (v : Val), vl[j]? = some a.n ∧ env a.n = some v)
end Go.Proofs.Ytimljadlfhccpaa
namespace Go.Proofs.Ytimljadlfhccpaa
open Go.RowKit
set_option maxHeartbeats 600000

theorem rval_cells {nf : Nat} {S : List Nat} {w : World} {p : Value} {v : Val} (h : RVal nf (memB S w) p v) : ∃ b ab ac, p = .pointer (some ⟨b, 0, none⟩) ∧ w.cell? ⟨b, 0, none⟩ = some (.int .i64 v.kind) ∧ w.cell? ⟨b, 1, none⟩ = some (.int .i64 v.n) ∧ w.cell? ⟨b, 2, none⟩ = some (.slice ab v.args.length ac) ∧
    v.args.length ≤ ac ∧ v.args.length ≤ 140737488355328 ∧ I64 v.n ∧ (∀ i (hi : i < v.args.length), ∃ cb co q, ab = some ⟨cb, co, none⟩ ∧ RVal nf (memB S w) q v.args[i] ∧ w.cell? ⟨cb, co + i, none⟩ = some q) := by
  obtain ⟨b, ab, ac, rfl, _, h2, _, h4, h5, h6, h7⟩ := h.open
  obtain ⟨c0, c1, c2⟩ := h6 w (memB_ag _ _)
  refine ⟨b, ab, ac, rfl, c0, c1, c2, h4, h5, h2, fun i hi => ?_⟩
  obtain ⟨cb, co, q, h8, h9, h10⟩ := h7 i hi
  exact ⟨cb, co, q, h8, h9, h10 w (memB_ag _ _)⟩
theorem val_new (nf : Nat) (S : List Nat) (w : World) (k n : Int) (hk : I64 k) (hn : I64 n) (h3 : k = 3 → 0 ≤ n ∧ n < nf) (hS : w.heap.size ∉ S) (t : TypeId) (b : Nat) (hb : b = w.heap.size) (va : Value) (l : List Val) (vp : Nat → Value)
    (ha : Slc (memB S w) 1 va l.length (fun i => [vp i])) (hv : ∀ i a, l[i]? = some a → RVal nf (memB S w) (vp i) a) :
    RVal nf (memB S (w.alloc (.cells #[.int .i64 k, .int .i64 n, va] t))) (.pointer (some ⟨b, 0, none⟩)) (.mk k n l) := by
  subst hb
  have hm := (Ext.below (S := S) (below_box w (.cells #[.int .i64 k, .int .i64 n, va] t))).mem
  refine .mk k n l _ va vp hk hn h3 ?_ (ha.mono hm) (fun i a h => (hv i a h).mono hm)
  intro j v hj
  unfold memB
  rw [if_neg hS, World.cell?_alloc_new]
  match j, hj with
  | 0, hj => simpa using hj
  | 1, hj => simpa using hj
  | 2, hj => simpa using hj
  | j + 3, hj => simp at hj
theorem doOp_I64 {op a b r : Int} (h : doOp op a b = some r) : I64 r := by
  have l1 : ∀ n, I64 (w31 n) := fun n => by have := w31_lo n; have := w31_hi n; unfold I64; omega
  unfold doOp at h
  split at h; · injection h with h; subst h; exact l1 _
  split at h; · injection h with h; subst h; exact l1 _
  split at h; · injection h with h; subst h; exact l1 _
  split at h; · injection h with h; subst h; split <;> exact ⟨by omega, by omega⟩
  split at h; · injection h with h; subst h; split <;> exact ⟨by omega, by omega⟩
  split at h; · cases h
  split at h; · injection h with h; subst h; exact l1 _
  split at h
  · injection h with h; subst h
    have h1 := w31_lo a; have h2 := w31_hi a
    have : ((w31 a).tmod (w31 b)).natAbs ≤ (w31 a).natAbs := by rw [Int.natAbs_tmod]; exact Nat.mod_le _ _
    unfold I64; omega
  · cases h
theorem doVal_some {op a b r : Int} (h : doOp op a b = some r) : doVal op a b = .tuple #[.int .i64 r, .bool true] := by simp [doVal, h]
theorem doVal_none {op a b : Int} (h : doOp op a b = none) : doVal op a b = .tuple #[.int .i64 0, .bool false] := by simp [doVal, h]
end Go.Proofs.Ytimljadlfhccpaa
namespace Go.Proofs.Ytimljadlfhccpaa
open Go.RowKit
set_option maxHeartbeats 600000

/-- A term lies at a place. -/
def TmAt (m : Mp) (b o : Nat) (t : Term) : Prop := ∃ tb tc ab ac fb fc nb nc, RTerm m [.int .i64 t.kind, .int .i64 t.x, .int .i64 t.n, .bool t.ints, .slice tb t.tags.length tc, .slice ab t.args.length ac, .slice fb t.funs.length fc, .slice nb t.next.length nc] t ∧
  ∀ w, Ag m w → w.cell? ⟨b, o, none⟩ = some (.int .i64 t.kind) ∧ w.cell? ⟨b, o + 1, none⟩ = some (.int .i64 t.x) ∧ w.cell? ⟨b, o + 2, none⟩ = some (.int .i64 t.n) ∧ w.cell? ⟨b, o + 3, none⟩ = some (.bool t.ints) ∧ w.cell? ⟨b, o + 4, none⟩ = some (.slice tb t.tags.length tc) ∧ w.cell? ⟨b, o + 5, none⟩ = some (.slice ab t.args.length ac) ∧ w.cell? ⟨b, o + 6, none⟩ = some (.slice fb t.funs.length fc) ∧ w.cell? ⟨b, o + 7, none⟩ = some (.slice nb t.next.length nc)
theorem TermAt.tm {m : Mp} {N : Option Addr} {j : Nat} {t : Term} (h : TermAt m N j t) : ∃ b o, N = some ⟨b, o, none⟩ ∧ TmAt m b (o + j * 8) t := by
  obtain ⟨b, o, tb, tc, ab, ac, fb, fc, nb, nc, e, h1, h2⟩ := h
  exact ⟨b, o, e, tb, tc, ab, ac, fb, fc, nb, nc, h1, h2⟩
theorem FunAt.tm {m : Mp} {F : Option Addr} {j : Nat} {f : Int × List Int × Term} (h : FunAt m F j f) : ∃ b o pb pc, F = some ⟨b, o, none⟩ ∧ TmAt m b (o + j * 10 + 2) f.2.2 ∧ RInts m (.slice pb f.2.1.length pc) f.2.1 ∧ ∀ w, Ag m w → w.cell? ⟨b, o + j * 10 + 1, none⟩ = some (.slice pb f.2.1.length pc) := by
  obtain ⟨b, o, pb, pc, tb, tc, ab, ac, fb, fc, nb, nc, e, _, h1, h2, h3⟩ := h
  exact ⟨b, o, pb, pc, e, ⟨tb, tc, ab, ac, fb, fc, nb, nc, h2, fun w hm => (h3 w hm).2.2⟩, h1, fun w hm => (h3 w hm).2.1⟩
/-- A term at a place, opened. -/
theorem TmAt.opn {m : Mp} {b o : Nat} {t : Term} (h : TmAt m b o t) : ∃ tb tc ab ac fb fc nb nc, Opn m t tb tc ab ac fb fc nb nc ∧
  ∀ w, Ag m w → w.cell? ⟨b, o, none⟩ = some (.int .i64 t.kind) ∧ w.cell? ⟨b, o + 1, none⟩ = some (.int .i64 t.x) ∧ w.cell? ⟨b, o + 2, none⟩ = some (.int .i64 t.n) ∧ w.cell? ⟨b, o + 3, none⟩ = some (.bool t.ints) ∧ w.cell? ⟨b, o + 4, none⟩ = some (.slice tb t.tags.length tc) ∧ w.cell? ⟨b, o + 5, none⟩ = some (.slice ab t.args.length ac) ∧ w.cell? ⟨b, o + 6, none⟩ = some (.slice fb t.funs.length fc) ∧ w.cell? ⟨b, o + 7, none⟩ = some (.slice nb t.next.length nc) := by
  obtain ⟨tb, tc, ab, ac, fb, fc, nb, nc, h1, h2⟩ := h
  obtain ⟨tb', tc', ab', ac', fb', fc', nb', nc', e, O⟩ := h1.opn
  simp only [List.cons.injEq, Value.slice.injEq] at e
  obtain ⟨_, _, _, _, ⟨rfl, _, rfl⟩, ⟨rfl, _, rfl⟩, ⟨rfl, _, rfl⟩, ⟨rfl, _, rfl⟩, _⟩ := e
  exact ⟨tb, tc, ab, ac, fb, fc, nb, nc, O, h2⟩
end Go.Proofs.Ytimljadlfhccpaa
