/- The machine's small functions: want, the counters. A region that draws its order, whose operations read what was there, and whose calls tell one value and leave what was there as it was: one walk, in the order of the text. The machine in memory; a variable's place; an atom's value. The machine: numbers, parts, what an operation tells, what a switch goes on with. The machine: what a switch goes on with; a number more of what is told. -/
import Derived.Test.YtjcgoohmhbgkiaaProg
import Derived.Test.YtjcgoohmhbgkiaaMJ
import Derived.WalkKit
import Derived.WalkLawsBesides
import Derived.WalkSmall
import Derived.Lib.Hide
import Derived.Deep.QuietTactic
import Derived.Deep.LoopGhost
import Derived.BigQuiet
import Derived.Outline
import Derived.Laws.LoneSync
import Derived.Test.YtjcgoohmhbgkiaaMP
import Derived.Test.YtjcgoohmhbgkiaaMA
set_option linter.all false
set_option linter.all false
set_option linter.all false
namespace Go.Proofs.Ytjcgoohmhbgkiaa
open Go.RowKit
set_option maxHeartbeats 400000

/-- How a run ends, as it is thrown. -/
def stopV (st : Bool) (e : Int) : Value := .iface 103 (.agg #[.int .i64 e, .bool st])
abbrev thrown (st : Bool) (e : Int) : Ending := .panicked [{ v := stopV st e, recovered := false }]
theorem want_ok (w : World) : Calls Try.prog 68 #[.bool true] w fun e w' => e = .returned (.tuple #[]) ∧ w' = w := by
  go_enter Try.func68, Try.ntmps68
  go_wp2
  all_goals (go_end0; exact ⟨rfl, rfl⟩)
theorem want_no (w : World) : Calls Try.prog 68 #[.bool false] w fun e w' => e = thrown true 0 ∧ w' = w := by
  go_enter Try.func68, Try.ntmps68
  go_wp2
  exact ⟨rfl, rfl, rfl⟩
theorem add_any {b o : Nat} {x y : Int} {w : World} (hc : w.cell? ⟨b, o, none⟩ = some (.int .i64 x)) (hz : w.frozen? ⟨b, o, none⟩ = false) (hx : 0 ≤ x) (hy : 0 ≤ y) (hb : x + y ≤ 9223372036854775807) :
    Calls Try.prog 53 #[.pointer (some ⟨b, o, none⟩), .int .i64 y] w fun e w' => e = .returned (.int .i64 (x + y)) ∧ w' = w.setCell ⟨b, o, none⟩ (.int .i64 (x + y)) := by
  have hs : (Op.intArith .add .i64 x y).run Try.prog w = .ok (.int .i64 (x + y)) w := by simp [go_sem, IntKind.wrap_i64, wrap64]; omega
  have hadd := run_call_add (P := Try.prog) (f := 66) Try.func66 (by kernel_rfl) (by kernel_rfl) (by kernel_rfl) .i64 (by kernel_rfl) hc hz hs
  go_enter Try.func53, Try.ntmps53
  go_wp2
  go_ret
  exact ⟨rfl, rfl⟩
theorem load_any {b o : Nat} {x : Int} {w : World} (hc : w.cell? ⟨b, o, none⟩ = some (.int .i64 x)) :
    Calls Try.prog 26 #[.pointer (some ⟨b, o, none⟩)] w fun e w' => e = .returned (.int .i64 x) ∧ w' = w := by
  have hld := run_call_load (P := Try.prog) (f := 41) Try.func41 (by kernel_rfl) (by kernel_rfl) (by kernel_rfl) .i64 (by kernel_rfl) hc
  go_enter Try.func26, Try.ntmps26
  go_wp2
  go_ret
  exact ⟨rfl, rfl⟩
end Go.Proofs.Ytjcgoohmhbgkiaa
namespace Go.Proofs.Ytjcgoohmhbgkiaa
open Go.RowKit

/-- A world in which all that was in w is as it was. -/
def Later (w : World) : Type := { x : World // Below w.heap.size w x }
instance (w : World) : Nonempty (Later w) := ⟨⟨w, Below.refl _ _⟩⟩
theorem wp_region_later {P : Program} {id : Nat} {Q : Exit → Act → World → Prop} {a : Act} {w : World} {l : List Oper} (hm : P.follows .mixedOrders = true) (hB : Region.lexB .any l.toArray = true)
    (h : wpQuiet P l.toArray (fun w' => ∃ s : Later w, w' = s.val) (fun a' => ∀ w', (∃ s : Later w, w' = s.val) → Q .normal a' w') l a) : (Code.region id l.toArray true).wp P Q a w :=
  wp_region_quiet (C := fun w' => ∃ s : Later w, w' = s.val) hm hB ⟨⟨w.drew, (Below.refl _ _).drew⟩, rfl⟩ (by simpa using h)
theorem later_cell (w : World) : ∀ (s : Later w) (b o : Nat), b < w.heap.size → s.val.cell? ⟨b, o, none⟩ = w.cell? ⟨b, o, none⟩ := fun s b o h => s.property.cell (p := ⟨b, o, none⟩) h
theorem Calls.later_of {P : Program} {f : FuncId} {args : Array Value} {w : World} {s : Later w} {v : Value}
    (h : Calls P f args s.val fun e w' => e = .returned v ∧ Below s.val.heap.size s.val w') : Calls P f args s.val fun e w'' => e = .returned v ∧ ∃ s' : Later w, w'' = s'.val :=
  h.mono fun _ w' ⟨he, hb⟩ => ⟨he, ⟨w', bgo s.property hb⟩, rfl⟩
end Go.Proofs.Ytjcgoohmhbgkiaa
namespace Go.Proofs.Ytjcgoohmhbgkiaa
open Go.RowKit
set_option maxHeartbeats 600000

structure Ctx where
  m0 : Mp
  M : Nat
  f : Flat
  Fb : Option Addr
  Fc : Nat
  fuel : Nat
  w1 : World
  VB : Nat
  Vc : Nat
  mb : Nat → Nat
def Ctx.nf (c : Ctx) : Nat := c.f.funs.length
/-- What stood when the machine was begun. -/
structure Ctx.Ok (c : Ctx) : Prop where
  ag : Ag c.m0 c.w1
  off : ∀ a v, c.m0 a = some v → a.block ≠ c.M
  lt : c.M < c.w1.heap.size
  good : goodFlat c.f = true
  funs : RFuns c.m0 (.slice c.Fb c.f.funs.length c.Fc) c.f.funs
  main : I64 c.f.main
  ne : c.VB ≠ c.M
  vle : c.f.funs.length ≤ c.Vc
  cap : c.f.funs.length ≤ 140737488355328
  fuelb : c.fuel ≤ 1048576
  vars : ∀ i (h : i < c.f.funs.length), c.w1.cell? ⟨c.VB, i, none⟩ = some (.map (some (c.mb i))) ∧ IMap c.w1 (c.mb i) (numbered (placesF c.f.funs[i])) ∧ c.mb i ≠ c.M ∧ (placesF c.f.funs[i]).Nodup
/-- The machine in memory. -/
structure Mch (c : Ctx) (w : World) (S : List Nat) (steps : Nat) (s : St) (vw vs : Value) (sh : List Int) : Prop where
  kept : Kept [c.M] c.w1 w
  inS : c.M ∈ S
  newS : ∀ k ∈ S, k = c.M ∨ c.w1.heap.size ≤ k
  c0 : w.cell? ⟨c.M, 0, none⟩ = some (.int .i64 steps)
  c1 : w.cell? ⟨c.M, 1, none⟩ = some (.int .i64 s.made)
  c2 : w.cell? ⟨c.M, 2, none⟩ = some (.int .i64 s.work)
  c3 : w.cell? ⟨c.M, 3, none⟩ = some (.slice c.Fb c.f.funs.length c.Fc)
  c4 : w.cell? ⟨c.M, 4, none⟩ = some (.int .i64 c.f.main)
  c5 : w.cell? ⟨c.M, 5, none⟩ = some (.slice (some ⟨c.VB, 0, none⟩) c.f.funs.length c.Vc)
  c6 : w.cell? ⟨c.M, 6, none⟩ = some (.int .i64 c.fuel)
  c7 : w.cell? ⟨c.M, 7, none⟩ = some vw
  c8 : w.cell? ⟨c.M, 8, none⟩ = some vs
  fz : ∀ j, w.frozen? ⟨c.M, j, none⟩ = false
  ownW : w.ownsRow c.w1.heap.size 3 1 vw s.writes.length (s.writes.map (.int .i64))
  ownS : w.ownsRow c.w1.heap.size 3 1 vs sh.length (sh.map (.int .i64))
  rowW : ∀ k, vw.ownBlock = some k → k ∈ S
  rowS : ∀ k, vs.ownBlock = some k → k ∈ S
  sep : vw.ownBlock = none ∨ vw.ownBlock ≠ vs.ownBlock
  i64W : ∀ x ∈ s.writes, I64 x
  i64S : ∀ x ∈ sh, I64 x
  lenW : s.writes.length ≤ 4096
  lenS : sh.length ≤ 4096
/-- A frame in memory: block F; its values from cell o of block V. -/
structure Frm (c : Ctx) (w : World) (S : List Nat) (F V o i : Nat) (vs : List Int) (env : Env) : Prop where
  hi : i < c.f.funs.length
  vsEq : ∀ h : i < c.f.funs.length, vs = placesF c.f.funs[i]
  c0 : w.cell? ⟨F, 0, none⟩ = some (.int .i64 i)
  cv : w.cell? ⟨F, 25, none⟩ = some (.slice (some ⟨V, o, none⟩) vs.length vs.length)
  inF : F ∈ S
  inV : V ∈ S
  neF : F ≠ c.M
  neV : V ≠ c.M
  slot : ∀ (j : Nat) (x : Int), vs[j]? = some x → ∃ p, w.cell? ⟨V, o + j, none⟩ = some p ∧ ROpt c.f.funs.length (memB S w) p (env x)
  fz : ∀ j, w.frozen? ⟨V, j, none⟩ = false
  out : V ≠ F ∨ (o = 1 ∧ vs.length ≤ 24)
  len : vs.length ≤ 1000000
section
variable {c : Ctx} {w w' : World} {S : List Nat} {steps : Nat} {s : St} {vw vs : Value} {sh : List Int} {F V o i : Nat} {vl : List Int} {env : Env}
theorem Mch.ag (h : Mch c w S steps s vw vs sh) (ok : c.Ok) : Ag c.m0 w := by
  intro a v ha
  exact h.kept.cell (ok.ag a v ha) (by simpa using ok.off a v ha)
theorem Mch.ltM (h : Mch c w S steps s vw vs sh) : c.M < w.heap.size := World.block_lt_of_cell? w ⟨c.M, 0, none⟩ h.c0
theorem frozen_below {B : Nat} {a b : World} (h : Below B a b) {k j : Nat} (hk : k < B) (hz : a.frozen? ⟨k, j, none⟩ = false) : b.frozen? ⟨k, j, none⟩ = false :=
  (World.frozen?_of_block (a := ⟨k, j, none⟩) (h.block k hk)).trans hz
theorem ownsRow_below {w w' : World} {base : Nat} {e : TypeId} {size : Nat} {v : Value} {n : Nat} {xs : List Value} (h : w.ownsRow base e size v n xs) (hb : Below w.heap.size w w') : w'.ownsRow base e size v n xs :=
  h.kept (row := none) ⟨hb.os, hb.tape, hb.output, hb.size, fun k hk _ => hb.block k hk⟩ (by cases v.ownBlock <;> simp)
theorem Mch.later (h : Mch c w S steps s vw vs sh) (hb : Below w.heap.size w w') : Mch c w' S steps s vw vs sh := by
  have hM := h.ltM
  exact ⟨h.kept.trans (Kept.below hb), h.inS, h.newS, (hb.cell hM).trans h.c0, (hb.cell hM).trans h.c1, (hb.cell hM).trans h.c2, (hb.cell hM).trans h.c3, (hb.cell hM).trans h.c4, (hb.cell hM).trans h.c5, (hb.cell hM).trans h.c6,
    (hb.cell hM).trans h.c7, (hb.cell hM).trans h.c8, fun j => frozen_below hb hM (h.fz j), ownsRow_below h.ownW hb, ownsRow_below h.ownS hb, h.rowW, h.rowS, h.sep, h.i64W, h.i64S, h.lenW, h.lenS⟩
theorem Frm.ltF (h : Frm c w S F V o i vl env) : F < w.heap.size := World.block_lt_of_cell? w ⟨F, 0, none⟩ h.c0
theorem Frm.later (h : Frm c w S F V o i vl env) (hb : Below w.heap.size w w') (hV : V < w.heap.size) : Frm c w' S F V o i vl env := by
  have hF := h.ltF
  refine ⟨h.hi, h.vsEq, (hb.cell hF).trans h.c0, (hb.cell hF).trans h.cv, h.inF, h.inV, h.neF, h.neV, fun j x hj => ?_, fun j => frozen_below hb hV (h.fz j), h.out, h.len⟩
  obtain ⟨p, h1, h2⟩ := h.slot j x hj
  exact ⟨p, (hb.cell hV).trans h1, h2.mono (Ext.below hb).mem⟩
/-- The cells that 'at' reads. -/
theorem Mch.varsAt (h : Mch c w S steps s vw vs sh) (ok : c.Ok) (hi : i < c.f.funs.length) : w.cell? ⟨c.VB, i, none⟩ = some (.map (some (c.mb i))) ∧ IMap w (c.mb i) (numbered (placesF c.f.funs[i])) := by
  obtain ⟨h1, h2, h3, _⟩ := ok.vars i hi
  exact ⟨h.kept.cell h1 (by simpa using ok.ne), h2.same (h.kept.block _ h2.lt (by simpa using h3))⟩
end
set_option maxRecDepth 100000 in
theorem at_any {M F VB nf Vc i mb n V o j : Nat} {es : List (Int × Value)} {x : Int} {w : World} (m5 : w.cell? ⟨M, 5, none⟩ = some (.slice (some ⟨VB, 0, none⟩) nf Vc))
    (f0 : w.cell? ⟨F, 0, none⟩ = some (.int .i64 i)) (fv : w.cell? ⟨F, 25, none⟩ = some (.slice (some ⟨V, o, none⟩) n n)) (hv : w.cell? ⟨VB, i, none⟩ = some (.map (some mb))) (hI : IMap w mb es)
    (ha : assoc es x = some (.int .i64 j)) (hi : i < nf) (hj : j < n) (hc : nf ≤ 4611686018427387904) (hn : n ≤ 4611686018427387904) :
    Calls Try.prog 71 #[.pointer (some ⟨M, 0, none⟩), .pointer (some ⟨F, 0, none⟩), .int .i64 x] w fun e w' => e = .returned (.pointer (some ⟨V, o + j, none⟩)) ∧ Below w.heap.size w w' := by
  have hi1 : (0 : Int) ≤ (i : Int) := by omega
  have hi2 : (i : Int) < (nf : Int) := by omega
  have hj1 : (0 : Int) ≤ (j : Int) := by omega
  have hj2 : (j : Int) < (n : Int) := by omega
  have hl : ∀ s : Later w, (Instr.lookup 83 (.map (some mb)) (.int .i64 x) false).run Try.prog s.val = .ok (.int .i64 j) s.val := fun s => by
    have := run_lookup_I (P := Try.prog) Try.underlying83 Try.underlying3 zero_int (hI.below s.property) x false
    simpa [ha] using this
  have lM := World.block_lt_of_cell? w ⟨M, 5, none⟩ m5
  have lF := World.block_lt_of_cell? w ⟨F, 0, none⟩ f0
  have lV := World.block_lt_of_cell? w ⟨VB, i, none⟩ hv
  go_enter Try.func71, Try.ntmps71
  go_wp2_with fail
  have hL := later_cell w
  refine wp_region_later (by kernel_rfl) (by kernel_rfl) ?_
  repeat (go_big_quiet_step (fail))
  refine wpQuiet_nil ?_
  intro _ hw'
  obtain ⟨⟨w1, hb1⟩, hw''⟩ := hw'
  subst hw''
  go_wp2_with fail
  go_ret
  exact ⟨rfl, hb1⟩
/-- A variable of the frame: its place. -/
theorem at_var {c : Ctx} {w : World} {S : List Nat} {steps : Nat} {s : St} {vw vs : Value} {sh : List Int} {F V o i : Nat} {vl : List Int} {env : Env} (ok : c.Ok) (hM : Mch c w S steps s vw vs sh) (hF : Frm c w S F V o i vl env)
    {j : Nat} {x : Int} (hx : vl[j]? = some x) : ∀ wx, Below w.heap.size w wx →
    Calls Try.prog 71 #[.pointer (some ⟨c.M, 0, none⟩), .pointer (some ⟨F, 0, none⟩), .int .i64 x] wx fun e w' => e = .returned (.pointer (some ⟨V, o + j, none⟩)) ∧ Below wx.heap.size wx w' := by
  intro wx hb
  obtain ⟨hj, hx'⟩ := List.getElem?_eq_some_iff.1 hx
  have h1 := hM.later hb
  have h2 := h1.varsAt ok hF.hi
  have hlF := hF.ltF
  have hn : (placesF (c.f.funs[i]'hF.hi)).Nodup := (ok.vars i hF.hi).2.2.2
  have ha := numbered_at _ hn j (by rw [← hF.vsEq hF.hi]; exact hj)
  have he := hF.vsEq hF.hi
  have hx2 : (placesF (c.f.funs[i]'hF.hi))[j]'(by rw [← he]; exact hj) = x := by rw [← hx']; congr 1; exact he.symm
  rw [hx2] at ha
  exact at_any h1.c5 ((hb.cell hlF).trans hF.c0) ((hb.cell hlF).trans hF.cv) h2.1 h2.2 ha hF.hi hj (by have := ok.vle; have := ok.cap; omega) (by have := hF.len; omega)
theorem atomI_new (nf : Nat) (S : List Nat) (w : World) (n : Int) (hn : I64 n) (hS : w.heap.size ∉ S) (t : TypeId) (b : Nat) (hb : b = w.heap.size) :
    RVal nf (memB S (w.alloc (.cells #[.int .i64 1, .int .i64 n, .slice none 0 0] t))) (.pointer (some ⟨b, 0, none⟩)) (.mk 1 n []) := by
  subst hb
  refine .mk 1 n [] _ (.slice none 0 0) (fun _ => .slice none 0 0) ⟨by omega, by omega⟩ hn (by omega) ?_ ⟨none, 0, rfl, by simp, by simp, by simp⟩ (by simp)
  intro j v hj
  unfold memB
  rw [if_neg hS, World.cell?_alloc_new]
  match j, hj with
  | 0, hj => simpa using hj
  | 1, hj => simpa using hj
  | 2, hj => simpa using hj
  | j + 3, hj => simp at hj
theorem mem_sub {S S' : List Nat} {w w' : World} (hk : Kept S w w') (hn : ∀ k ∈ S', k ∈ S ∨ w.heap.size ≤ k) : ∀ a v, memB S w a = some v → memB S' w' a = some v := by
  intro a v ha
  unfold memB at ha ⊢
  split at ha
  · cases ha
  · rename_i hs
    have hlt := World.block_lt_of_cell? w a ha
    rw [if_neg (fun hm => (hn _ hm).elim hs (fun h2 => by omega))]
    exact hk.cell ha hs
/-- What stands ahead of an atom: its variable is bound. -/
def Bound (vl : List Int) (env : Env) (a : Atm) : Prop := I64 a.n ∧ (a.var = true → ∃ (j : Nat) (v : Val), vl[j]? = some a.n ∧ env a.n = some v)
/-- What atom tells, in each world behind. -/
def AtomAt (c : Ctx) (w : World) (S : List Nat) (F : Nat) (a : Atm) (v : Val) : Prop := (∀ k ∈ S, k < w.heap.size) ∧ ∀ wx, Below w.heap.size w wx → ∀ S', (∀ k ∈ S', k ∈ S ∨ w.heap.size ≤ k) → (∀ k ∈ S', k < wx.heap.size) →
    Calls Try.prog 74 #[.pointer (some ⟨c.M, 0, none⟩), .agg #[.bool a.var, .int .i64 a.n], .pointer (some ⟨F, 0, none⟩)] wx fun e w' => ∃ p, e = .returned p ∧ Below wx.heap.size wx w' ∧ RVal c.f.funs.length (memB S' w') p v
set_option maxRecDepth 100000 in
theorem atomAt {c : Ctx} {w : World} {S : List Nat} {steps : Nat} {s : St} {vw vs : Value} {sh : List Int} {F V o i : Nat} {vl : List Int} {env : Env} (ok : c.Ok) (hM : Mch c w S steps s vw vs sh) (hF : Frm c w S F V o i vl env)
    (hS : ∀ k ∈ S, k < w.heap.size) (a : Atm) (hb : Bound vl env a) : AtomAt c w S F a (atomV env a) := by
  refine ⟨hS, fun wx hbx S' hn hl => ?_⟩
  obtain ⟨ha, hv⟩ := hb
  cases hav : a.var with
  | true =>
    obtain ⟨j, v, h1, h2⟩ := hv hav
    have Hat := Lib.hid (fun wy (h : Below wx.heap.size wx wy) => at_var ok hM hF h1 wy (bgo hbx h))
    obtain ⟨p, h3, h4⟩ := hF.slot j _ h1
    have HV := hS V hF.inV
    have h3x := (hbx.cell HV).trans h3
    have HVx := Nat.lt_of_lt_of_le HV hbx.size
    rw [h2] at h4
    have H4 := Lib.hid (fun wy (h : Below wx.heap.size wx wy) => (show RVal c.f.funs.length (memB S w) p (atomV env a) from by unfold atomV; rw [hav, if_pos rfl, h2]; exact h4).mono (mem_sub (S' := S') (Kept.below (bgo hbx h)) hn))
    clear hM hF ok hv h2 h4 hS hav hn hl hbx h3 HV
    go_enter Try.func74, Try.ntmps74
    go_wp2_with (go_at_call 71; refine (Hat.out _ (below_box _ _)).mono ?_; rintro e w2 ⟨rfl, hb2⟩; have h5 := ((bgo (below_box _ _) hb2).cell HVx).trans h3x)
    go_ret
    exact ⟨_, rfl, bgo (below_box _ _) hb2, H4.out _ (bgo (below_box _ _) hb2)⟩
  | false =>
    have hS' : (wx.alloc (.cells #[.bool a.var, .int .i64 a.n] 52)).heap.size ∉ S' := fun h => by have := hl _ h; simp at this; omega
    have HN := Lib.hid (atomI_new c.f.funs.length S' (wx.alloc (.cells #[.bool false, .int .i64 a.n] 52)) a.n ha (by rw [hav] at hS'; exact hS') 93 (wx.heap.size + 1) (by simp))
    have HE := Lib.hid (show atomV env a = .mk 1 a.n [] from by unfold atomV; rw [hav]; rfl)
    clear hM hF ok hv hS hS' hav hn hl hbx
    go_enter Try.func74, Try.ntmps74
    go_wp2_with fail
    go_ret
    exact ⟨.pointer (some ⟨wx.heap.size + 1, 0, none⟩), rfl, bgo (below_box _ _) (below_box _ _), by rw [HE.out]; exact HN.out⟩
theorem AtomAt.plain {c : Ctx} {w : World} {S : List Nat} {F : Nat} {a : Atm} {v : Val} (h : AtomAt c w S F a v) : ∀ wx, Below w.heap.size w wx →
    Calls Try.prog 74 #[.pointer (some ⟨c.M, 0, none⟩), .agg #[.bool a.var, .int .i64 a.n], .pointer (some ⟨F, 0, none⟩)] wx fun e w' => ∃ p, e = .returned p ∧ Below wx.heap.size wx w' ∧ RVal c.f.funs.length (memB S w') p v :=
  fun wx hb => h.2 wx hb S (fun _ hk => .inl hk) (fun k hk => Nat.lt_of_lt_of_le (h.1 k hk) hb.size)
end Go.Proofs.Ytjcgoohmhbgkiaa
namespace Go.Proofs.Ytjcgoohmhbgkiaa
open Go.RowKit
set_option maxHeartbeats 600000

theorem rval_cells {nf : Nat} {S : List Nat} {w : World} {p : Value} {v : Val} (h : RVal nf (memB S w) p v) : ∃ b ab ac, p = .pointer (some ⟨b, 0, none⟩) ∧ w.cell? ⟨b, 0, none⟩ = some (.int .i64 v.kind) ∧ w.cell? ⟨b, 1, none⟩ = some (.int .i64 v.n) ∧ w.cell? ⟨b, 2, none⟩ = some (.slice ab v.args.length ac) ∧
    v.args.length ≤ ac ∧ v.args.length ≤ 140737488355328 ∧ I64 v.n ∧ (∀ i (hi : i < v.args.length), ∃ cb co q, ab = some ⟨cb, co, none⟩ ∧ RVal nf (memB S w) q v.args[i] ∧ w.cell? ⟨cb, co + i, none⟩ = some q) := by
  obtain ⟨b, ab, ac, rfl, _, h2, _, h4, h5, h6, h7⟩ := h.open
  obtain ⟨c0, c1, c2⟩ := h6 w (memB_ag _ _)
  refine ⟨b, ab, ac, rfl, c0, c1, c2, h4, h5, h2, fun i hi => ?_⟩
  obtain ⟨cb, co, q, h8, h9, h10⟩ := h7 i hi
  exact ⟨cb, co, q, h8, h9, h10 w (memB_ag _ _)⟩
theorem number_ok {c : Ctx} {w : World} {S : List Nat} {F : Nat} {a : Atm} {v : Val} (H : AtomAt c w S F a v) (hk : v.kind = 1) :
    Calls Try.prog 69 #[.pointer (some ⟨c.M, 0, none⟩), .agg #[.bool a.var, .int .i64 a.n], .pointer (some ⟨F, 0, none⟩)] w fun e w' => e = .returned (.int .i64 v.n) ∧ Below w.heap.size w w' := by
  have HA := Lib.hid H
  clear H
  go_enter Try.func69, Try.ntmps69
  go_wp2_with (first | (go_at_call 74; refine (HA.out.plain _ (below_box _ _)).mono ?_; rintro e w2 ⟨p, rfl, hb2, hr⟩; obtain ⟨b, ab, ac, rfl, q0, q1, _⟩ := rval_cells hr; rw [hk] at q0; clear hr) | (go_at_call 68; refine (want_ok _).mono ?_; rintro e w3 ⟨rfl, rfl⟩))
  go_ret
  exact ⟨rfl, bgo (below_box _ _) hb2⟩
theorem number_no {c : Ctx} {w : World} {S : List Nat} {F : Nat} {a : Atm} {v : Val} (H : AtomAt c w S F a v) (hk : ¬ v.kind = 1) :
    Calls Try.prog 69 #[.pointer (some ⟨c.M, 0, none⟩), .agg #[.bool a.var, .int .i64 a.n], .pointer (some ⟨F, 0, none⟩)] w fun e w' => e = thrown true 0 ∧ Below w.heap.size w w' := by
  have HA := Lib.hid H
  have hk' : (v.kind == 1) = false := by rw [beq_eq_false_iff_ne]; exact hk
  clear H hk
  go_enter Try.func69, Try.ntmps69
  go_wp2_with (first | (go_at_call 74; refine (HA.out.plain _ (below_box _ _)).mono ?_; rintro e w2 ⟨p, rfl, hb2, hr⟩; obtain ⟨b, ab, ac, rfl, q0, q1, _⟩ := rval_cells hr; clear hr) | (go_at_call 68; refine (want_no _).mono ?_; rintro e w3 ⟨rfl, rfl⟩))
  exact ⟨rfl, rfl, bgo (below_box _ _) hb2⟩
theorem part_ok {nf : Nat} {S : List Nat} {w : World} {p : Value} {v : Val} (h : RVal nf (memB S w) p v) {k n : Int} (hk : v.kind = k) (h0 : 0 ≤ n) (hn : n < v.args.length) :
    Calls Try.prog 73 #[p, .int .i64 k, .int .i64 n] w fun e w' => ∃ q, e = .returned q ∧ w' = w ∧ RVal nf (memB S w) q (v.args.getD n.toNat nov) := by
  obtain ⟨b, ab, ac, rfl, c0, c1, c2, h4, h5, h6, h7⟩ := rval_cells h
  obtain ⟨j, rfl⟩ : ∃ j : Nat, n = j := ⟨n.toNat, by omega⟩
  have hj : j < v.args.length := by omega
  obtain ⟨cb, co, q, rfl, hr, hc⟩ := h7 j hj
  have HR := Lib.hid (show RVal nf (memB S w) q (v.args.getD (j : Int).toNat nov) from by simpa [List.getD_eq_getElem?_getD, List.getElem?_eq_getElem hj] using hr)
  subst hk
  clear h h7 hr
  go_enter Try.func73, Try.ntmps73
  go_wp2_with (go_at_call 68; refine (want_ok _).mono ?_; rintro e w3 ⟨rfl, rfl⟩)
  go_ret
  exact ⟨q, rfl, rfl, HR.out⟩
theorem part_no {nf : Nat} {S : List Nat} {w : World} {p : Value} {v : Val} (h : RVal nf (memB S w) p v) {k n : Int} (h0 : 0 ≤ n) (hn : ¬ (v.kind = k ∧ n < v.args.length)) :
    Calls Try.prog 73 #[p, .int .i64 k, .int .i64 n] w fun e w' => e = thrown true 0 ∧ w' = w := by
  obtain ⟨b, ab, ac, rfl, c0, c1, c2, h4, h5, h6, h7⟩ := rval_cells h
  clear h h7
  by_cases hk : v.kind = k
  · have hn' : ¬ n < v.args.length := fun h => hn ⟨hk, h⟩
    subst hk
    clear hn
    go_enter Try.func73, Try.ntmps73
    go_wp2_with (go_at_call 68; refine (want_no _).mono ?_; rintro e w3 ⟨rfl, rfl⟩)
    exact ⟨rfl, rfl, rfl⟩
  · have hk' : (v.kind == k) = false := by rw [beq_eq_false_iff_ne]; exact hk
    clear hn hk
    go_enter Try.func73, Try.ntmps73
    go_wp2_with (go_at_call 68; refine (want_no _).mono ?_; rintro e w3 ⟨rfl, rfl⟩)
    exact ⟨rfl, rfl, rfl⟩
theorem val_new (nf : Nat) (S : List Nat) (w : World) (k n : Int) (hk : I64 k) (hn : I64 n) (h3 : k = 3 → 0 ≤ n ∧ n < nf) (hS : w.heap.size ∉ S) (t : TypeId) (b : Nat) (hb : b = w.heap.size) (va : Value) (l : List Val) (vp : Nat → Value)
    (ha : Slc (memB S w) 1 va l.length (fun i => [vp i])) (hv : ∀ i a, l[i]? = some a → RVal nf (memB S w) (vp i) a) :
    RVal nf (memB S (w.alloc (.cells #[.int .i64 k, .int .i64 n, va] t))) (.pointer (some ⟨b, 0, none⟩)) (.mk k n l) := by
  subst hb
  have hm := (Ext.below (S := S) (below_box w (.cells #[.int .i64 k, .int .i64 n, va] t))).mem
  refine .mk k n l _ va vp hk hn h3 ?_ (ha.mono hm) (fun i a h => (hv i a h).mono hm)
  intro j v hj
  unfold memB
  rw [if_neg hS, World.cell?_alloc_new]
  match j, hj with
  | 0, hj => simpa using hj
  | 1, hj => simpa using hj
  | 2, hj => simpa using hj
  | j + 3, hj => simp at hj
theorem doOp_I64 {op a b r : Int} (h : doOp op a b = some r) : I64 r := by
  have l1 : ∀ n, I64 (w31 n) := fun n => by have := w31_lo n; have := w31_hi n; unfold I64; omega
  unfold doOp at h
  split at h; · injection h with h; subst h; exact l1 _
  split at h; · injection h with h; subst h; exact l1 _
  split at h; · injection h with h; subst h; exact l1 _
  split at h; · injection h with h; subst h; split <;> exact ⟨by omega, by omega⟩
  split at h; · injection h with h; subst h; split <;> exact ⟨by omega, by omega⟩
  split at h; · cases h
  split at h; · injection h with h; subst h; exact l1 _
  split at h
  · injection h with h; subst h
    have h1 := w31_lo a; have h2 := w31_hi a
    have : ((w31 a).tmod (w31 b)).natAbs ≤ (w31 a).natAbs := by rw [Int.natAbs_tmod]; exact Nat.mod_le _ _
    unfold I64; omega
  · cases h
theorem doVal_some {op a b r : Int} (h : doOp op a b = some r) : doVal op a b = .tuple #[.int .i64 r, .bool true] := by simp [doVal, h]
theorem doVal_none {op a b : Int} (h : doOp op a b = none) : doVal op a b = .tuple #[.int .i64 0, .bool false] := by simp [doVal, h]
theorem prim_no {op a b : Int} {w : World} (ha : I64 a) (hb : I64 b) (h : doOp op a b = none) :
    Calls Try.prog 70 #[.int .i64 op, .int .i64 a, .int .i64 b] w fun e w' => e = thrown false 2 ∧ w' = w := by
  have HD := Lib.hid (fun w => iDo op a b w ha hb)
  rw [doVal_none h] at HD
  clear h ha hb
  go_enter Try.func70, Try.ntmps70
  go_wp2_with (go_at_call 83; refine (HD.out _).mono ?_; rintro e w3 ⟨rfl, rfl⟩)
  exact ⟨rfl, rfl, rfl⟩
theorem prim_ok {nf : Nat} {S : List Nat} {op a b r : Int} {w : World} (ha : I64 a) (hb : I64 b) (h : doOp op a b = some r) (hS : w.heap.size ∉ S) :
    Calls Try.prog 70 #[.int .i64 op, .int .i64 a, .int .i64 b] w fun e w' => ∃ p, e = .returned p ∧ Below w.heap.size w w' ∧ RVal nf (memB S w') p (primV op r) := by
  have HD := Lib.hid (fun w => iDo op a b w ha hb)
  rw [doVal_some h] at HD
  have hr := doOp_I64 h
  by_cases h6 : op = 6
  · have HN := Lib.hid (val_new nf S w 2 r ⟨by omega, by omega⟩ hr (by omega) hS 93 w.heap.size rfl (.slice none 0 0) [] (fun _ => .slice none 0 0) ⟨none, 0, rfl, by simp, by simp, by simp⟩ (by simp))
    have HE := Lib.hid (show primV op r = .mk 2 r [] from by simp [primV, h6])
    subst h6
    clear h ha hb hr hS
    go_enter Try.func70, Try.ntmps70
    go_wp2_with (go_at_call 83; refine (HD.out _).mono ?_; rintro e w3 ⟨rfl, rfl⟩)
    go_ret
    exact ⟨_, rfl, below_box _ _, by rw [HE.out]; exact HN.out⟩
  · by_cases h7 : op = 7
    · have HN := Lib.hid (val_new nf S w 2 r ⟨by omega, by omega⟩ hr (by omega) hS 93 w.heap.size rfl (.slice none 0 0) [] (fun _ => .slice none 0 0) ⟨none, 0, rfl, by simp, by simp, by simp⟩ (by simp))
      have HE := Lib.hid (show primV op r = .mk 2 r [] from by simp [primV, h7])
      subst h7
      clear h ha hb hr hS h6
      go_enter Try.func70, Try.ntmps70
      go_wp2_with (go_at_call 83; refine (HD.out _).mono ?_; rintro e w3 ⟨rfl, rfl⟩)
      go_ret
      exact ⟨_, rfl, below_box _ _, by rw [HE.out]; exact HN.out⟩
    · have HN := Lib.hid (val_new nf S w 1 r ⟨by omega, by omega⟩ hr (by omega) hS 93 w.heap.size rfl (.slice none 0 0) [] (fun _ => .slice none 0 0) ⟨none, 0, rfl, by simp, by simp, by simp⟩ (by simp))
      have HE := Lib.hid (show primV op r = .mk 1 r [] from by simp [primV, h6, h7])
      have q6 : (op == 6) = false := by rw [beq_eq_false_iff_ne]; exact h6
      have q7 : (op == 7) = false := by rw [beq_eq_false_iff_ne]; exact h7
      clear h ha hb hr hS h6 h7
      go_enter Try.func70, Try.ntmps70
      go_wp2_with (go_at_call 83; refine (HD.out _).mono ?_; rintro e w3 ⟨rfl, rfl⟩)
      go_ret
      exact ⟨_, rfl, below_box _ _, by rw [HE.out]; exact HN.out⟩
end Go.Proofs.Ytjcgoohmhbgkiaa
namespace Go.Proofs.Ytjcgoohmhbgkiaa
open Go.RowKit
set_option maxHeartbeats 600000

/-- A term lies at a place. -/
def TmAt (m : Mp) (b o : Nat) (t : Term) : Prop := ∃ tb tc ab ac fb fc nb nc, RTerm m [.int .i64 t.kind, .int .i64 t.x, .int .i64 t.n, .bool t.ints, .slice tb t.tags.length tc, .slice ab t.args.length ac, .slice fb t.funs.length fc, .slice nb t.next.length nc] t ∧
  ∀ w, Ag m w → w.cell? ⟨b, o, none⟩ = some (.int .i64 t.kind) ∧ w.cell? ⟨b, o + 1, none⟩ = some (.int .i64 t.x) ∧ w.cell? ⟨b, o + 2, none⟩ = some (.int .i64 t.n) ∧ w.cell? ⟨b, o + 3, none⟩ = some (.bool t.ints) ∧ w.cell? ⟨b, o + 4, none⟩ = some (.slice tb t.tags.length tc) ∧ w.cell? ⟨b, o + 5, none⟩ = some (.slice ab t.args.length ac) ∧ w.cell? ⟨b, o + 6, none⟩ = some (.slice fb t.funs.length fc) ∧ w.cell? ⟨b, o + 7, none⟩ = some (.slice nb t.next.length nc)
theorem TermAt.tm {m : Mp} {N : Option Addr} {j : Nat} {t : Term} (h : TermAt m N j t) : ∃ b o, N = some ⟨b, o, none⟩ ∧ TmAt m b (o + j * 8) t := by
  obtain ⟨b, o, tb, tc, ab, ac, fb, fc, nb, nc, e, h1, h2⟩ := h
  exact ⟨b, o, e, tb, tc, ab, ac, fb, fc, nb, nc, h1, h2⟩
theorem FunAt.tm {m : Mp} {F : Option Addr} {j : Nat} {f : Int × List Int × Term} (h : FunAt m F j f) : ∃ b o pb pc, F = some ⟨b, o, none⟩ ∧ TmAt m b (o + j * 10 + 2) f.2.2 ∧ RInts m (.slice pb f.2.1.length pc) f.2.1 ∧ ∀ w, Ag m w → w.cell? ⟨b, o + j * 10 + 1, none⟩ = some (.slice pb f.2.1.length pc) := by
  obtain ⟨b, o, pb, pc, tb, tc, ab, ac, fb, fc, nb, nc, e, _, h1, h2, h3⟩ := h
  exact ⟨b, o, pb, pc, e, ⟨tb, tc, ab, ac, fb, fc, nb, nc, h2, fun w hm => (h3 w hm).2.2⟩, h1, fun w hm => (h3 w hm).2.1⟩
/-- A term at a place, opened. -/
theorem TmAt.opn {m : Mp} {b o : Nat} {t : Term} (h : TmAt m b o t) : ∃ tb tc ab ac fb fc nb nc, Opn m t tb tc ab ac fb fc nb nc ∧
  ∀ w, Ag m w → w.cell? ⟨b, o, none⟩ = some (.int .i64 t.kind) ∧ w.cell? ⟨b, o + 1, none⟩ = some (.int .i64 t.x) ∧ w.cell? ⟨b, o + 2, none⟩ = some (.int .i64 t.n) ∧ w.cell? ⟨b, o + 3, none⟩ = some (.bool t.ints) ∧ w.cell? ⟨b, o + 4, none⟩ = some (.slice tb t.tags.length tc) ∧ w.cell? ⟨b, o + 5, none⟩ = some (.slice ab t.args.length ac) ∧ w.cell? ⟨b, o + 6, none⟩ = some (.slice fb t.funs.length fc) ∧ w.cell? ⟨b, o + 7, none⟩ = some (.slice nb t.next.length nc) := by
  obtain ⟨tb, tc, ab, ac, fb, fc, nb, nc, h1, h2⟩ := h
  obtain ⟨tb', tc', ab', ac', fb', fc', nb', nc', e, O⟩ := h1.opn
  simp only [List.cons.injEq, Value.slice.injEq] at e
  obtain ⟨_, _, _, _, ⟨rfl, _, rfl⟩, ⟨rfl, _, rfl⟩, ⟨rfl, _, rfl⟩, ⟨rfl, _, rfl⟩, _⟩ := e
  exact ⟨tb, tc, ab, ac, fb, fc, nb, nc, O, h2⟩
theorem chosen_stuck {nf : Nat} {m : Mp} {b o : Nat} {t : Term} {S : List Nat} {w : World} {p : Value} {v : Val} (hT : TmAt m b o t) (hm : Ag m w) (h : RVal nf (memB S w) p v)
    (hn : ¬ ((t.ints = true ∧ v.kind = 1) ∨ (t.ints = false ∧ v.kind = 2))) :
    Calls Try.prog 75 #[.pointer (some ⟨b, o, none⟩), p] w fun e w' => e = thrown true 0 ∧ w' = w := by
  obtain ⟨tb, tc, ab, ac, fb, fc, nb, nc, O, hc⟩ := hT.opn
  obtain ⟨q0, q1, q2, q3, q4, q5, q6, q7⟩ := hc w hm
  obtain ⟨vb, va, vc, rfl, c0, c1, c2, h4, h5, h6, h7⟩ := rval_cells h
  clear h h7 O hc
  cases hi : t.ints with
  | true =>
    rw [hi] at q3
    have hk : (v.kind == 1) = false := by rw [beq_eq_false_iff_ne]; intro e; exact hn (.inl ⟨hi, e⟩)
    clear hn hi
    go_enter Try.func75, Try.ntmps75
    go_wp2_with (go_at_call 68; refine (want_no _).mono ?_; rintro e w3 ⟨rfl, rfl⟩)
    exact ⟨rfl, rfl, rfl⟩
  | false =>
    rw [hi] at q3
    have hk : (v.kind == 2) = false := by rw [beq_eq_false_iff_ne]; intro e; exact hn (.inr ⟨hi, e⟩)
    clear hn hi
    go_enter Try.func75, Try.ntmps75
    go_wp2_with (go_at_call 68; refine (want_no _).mono ?_; rintro e w3 ⟨rfl, rfl⟩)
    exact ⟨rfl, rfl, rfl⟩
set_option maxRecDepth 100000 in
/-- The kinds are right. -/
theorem chosen_any {nf : Nat} {m : Mp} {b o : Nat} {t : Term} {S : List Nat} {w : World} {p : Value} {v : Val} (hT : TmAt m b o t) (hm : Ag m w) (h : RVal nf (memB S w) p v)
    (hn : (t.ints = true ∧ v.kind = 1) ∨ (t.ints = false ∧ v.kind = 2)) :
    Calls Try.prog 75 #[.pointer (some ⟨b, o, none⟩), p] w fun e w' => Below w.heap.size w w' ∧ if hj : idxOf t.tags v.n < t.next.length then ∃ b' o', e = .returned (.pointer (some ⟨b', o', none⟩)) ∧ TmAt m b' o' t.next[idxOf t.tags v.n] else e = thrown true 0 := by
  obtain ⟨tb, tc, ab, ac, fb, fc, nb, nc, O, hc⟩ := hT.opn
  obtain ⟨q0, q1, q2, q3, q4, q5, q6, q7⟩ := hc w hm
  obtain ⟨vb, va, vc, rfl, c0, c1, c2, h4, h5, h6, h7⟩ := rval_cells h
  have HX := Lib.hid (fun (s : Later w) => sIndex O.tags v.n s.val (hm.later s.property))
  have HXL := Lib.hid (fun (s : Later w) => Calls.later_of ((HX.out s).mono (fun e w' (h : e = .returned (.int .i64 (idx t.tags v.n)) ∧ s.val = w') => (⟨h.1, h.2 ▸ Below.refl _ _⟩ : e = .returned (.int .i64 (idx t.tags v.n)) ∧ Below s.val.heap.size s.val w'))))
  have i1 := idx_ge t.tags v.n
  have i2 := idx_lt t.tags v.n
  have l1 := World.block_lt_of_cell? w ⟨b, o, none⟩ q0
  have l2 := World.block_lt_of_cell? w ⟨vb, 0, none⟩ c0
  have hL := later_cell w
  have tl := O.tags.len
  have nbd := O.nbd
  have HN := Lib.hid O.nextAt
  clear h h7 hc O HX hm hT
  cases hi : t.ints with
  | true =>
    rw [hi] at q3
    have hk : v.kind = 1 := by rcases hn with ⟨_, e⟩ | ⟨e, _⟩; exact e; rw [hi] at e; cases e
    rw [hk] at c0
    clear hi hk
    by_cases hneg : idx t.tags v.n < 0
    · have hj : idxOf t.tags v.n = t.tags.length := by unfold idxOf; rw [if_pos hneg]
      rw [hj]
      clear hj
      by_cases hin : t.tags.length < t.next.length
      · refine Calls.mono (R := fun e w' => Below w.heap.size w w' ∧ ∃ b' o', e = Ending.returned (.pointer (some ⟨b', o', none⟩)) ∧ TmAt m b' o' t.next[t.tags.length]) ?_ (fun e w' h => ⟨h.1, by rw [dif_pos hin]; exact h.2⟩)
        obtain ⟨b2, o2, rfl, hT2⟩ := (HN.out t.tags.length hin).tm
        have HR := Lib.hid (show ∃ b' o', Ending.returned (.pointer (some ⟨b2, o2 + t.tags.length * 8, none⟩)) = Ending.returned (.pointer (some ⟨b', o', none⟩)) ∧ TmAt m b' o' t.next[t.tags.length] from ⟨_, _, rfl, hT2⟩)
        clear hT2 HN hn
        go_enter Try.func75, Try.ntmps75
        go_wp2_with (go_at_call 68; refine (want_ok _).mono ?_; rintro e w3 ⟨rfl, rfl⟩)
        refine wp_region_later (by kernel_rfl) (by kernel_rfl) ?_
        repeat (go_big_quiet_step ((go_at_call 84; exact HXL.out _)))
        refine wpQuiet_nil ?_
        intro _ hw'
        obtain ⟨⟨w1, hb1⟩, hw''⟩ := hw'
        subst hw''
        have r4 := (hb1.cell (p := ⟨b, o + 4, none⟩) l1).trans q4
        have r7 := (hb1.cell (p := ⟨b, o + 7, none⟩) l1).trans q7
        go_wp2_with (go_at_call 68; refine (want_ok _).mono ?_; rintro e w3 ⟨rfl, rfl⟩)
        go_ret
        exact ⟨hb1, HR.out⟩
      · refine Calls.mono (R := fun e w' => Below w.heap.size w w' ∧ e = thrown true 0) ?_ (fun e w' h => ⟨h.1, by rw [dif_neg hin]; exact h.2⟩)
        clear HN hn
        go_enter Try.func75, Try.ntmps75
        go_wp2_with (go_at_call 68; refine (want_ok _).mono ?_; rintro e w3 ⟨rfl, rfl⟩)
        refine wp_region_later (by kernel_rfl) (by kernel_rfl) ?_
        repeat (go_big_quiet_step ((go_at_call 84; exact HXL.out _)))
        refine wpQuiet_nil ?_
        intro _ hw'
        obtain ⟨⟨w1, hb1⟩, hw''⟩ := hw'
        subst hw''
        have r4 := (hb1.cell (p := ⟨b, o + 4, none⟩) l1).trans q4
        have r7 := (hb1.cell (p := ⟨b, o + 7, none⟩) l1).trans q7
        go_wp2_with (go_at_call 68; refine (want_no _).mono ?_; rintro e w3 ⟨rfl, rfl⟩)
        exact ⟨rfl, hb1, rfl⟩
    · have hj : idxOf t.tags v.n = (idx t.tags v.n).toNat := by unfold idxOf; rw [if_neg hneg]
      obtain ⟨k, hk⟩ : ∃ k : Nat, idx t.tags v.n = k := ⟨(idx t.tags v.n).toNat, by omega⟩
      rw [hk] at hj hneg i1 i2 HXL
      have hj : idxOf t.tags v.n = k := by rw [hj]; rfl
      rw [hj]
      clear hj
      by_cases hin : k < t.next.length
      · refine Calls.mono (R := fun e w' => Below w.heap.size w w' ∧ ∃ b' o', e = Ending.returned (.pointer (some ⟨b', o', none⟩)) ∧ TmAt m b' o' t.next[k]) ?_ (fun e w' h => ⟨h.1, by rw [dif_pos hin]; exact h.2⟩)
        obtain ⟨b2, o2, rfl, hT2⟩ := (HN.out k hin).tm
        have HR := Lib.hid (show ∃ b' o', Ending.returned (.pointer (some ⟨b2, o2 + k * 8, none⟩)) = Ending.returned (.pointer (some ⟨b', o', none⟩)) ∧ TmAt m b' o' t.next[k] from ⟨_, _, rfl, hT2⟩)
        clear hT2 HN hn
        go_enter Try.func75, Try.ntmps75
        go_wp2_with (go_at_call 68; refine (want_ok _).mono ?_; rintro e w3 ⟨rfl, rfl⟩)
        refine wp_region_later (by kernel_rfl) (by kernel_rfl) ?_
        repeat (go_big_quiet_step ((go_at_call 84; exact HXL.out _)))
        refine wpQuiet_nil ?_
        intro _ hw'
        obtain ⟨⟨w1, hb1⟩, hw''⟩ := hw'
        subst hw''
        have r4 := (hb1.cell (p := ⟨b, o + 4, none⟩) l1).trans q4
        have r7 := (hb1.cell (p := ⟨b, o + 7, none⟩) l1).trans q7
        go_wp2_with (go_at_call 68; refine (want_ok _).mono ?_; rintro e w3 ⟨rfl, rfl⟩)
        go_ret
        exact ⟨hb1, HR.out⟩
      · refine Calls.mono (R := fun e w' => Below w.heap.size w w' ∧ e = thrown true 0) ?_ (fun e w' h => ⟨h.1, by rw [dif_neg hin]; exact h.2⟩)
        clear HN hn
        go_enter Try.func75, Try.ntmps75
        go_wp2_with (go_at_call 68; refine (want_ok _).mono ?_; rintro e w3 ⟨rfl, rfl⟩)
        refine wp_region_later (by kernel_rfl) (by kernel_rfl) ?_
        repeat (go_big_quiet_step ((go_at_call 84; exact HXL.out _)))
        refine wpQuiet_nil ?_
        intro _ hw'
        obtain ⟨⟨w1, hb1⟩, hw''⟩ := hw'
        subst hw''
        have r4 := (hb1.cell (p := ⟨b, o + 4, none⟩) l1).trans q4
        have r7 := (hb1.cell (p := ⟨b, o + 7, none⟩) l1).trans q7
        go_wp2_with (go_at_call 68; refine (want_no _).mono ?_; rintro e w3 ⟨rfl, rfl⟩)
        exact ⟨rfl, hb1, rfl⟩
  | false =>
    rw [hi] at q3
    have hk : v.kind = 2 := by rcases hn with ⟨e, _⟩ | ⟨_, e⟩; rw [hi] at e; cases e; exact e
    rw [hk] at c0
    clear hi hk
    by_cases hneg : idx t.tags v.n < 0
    · have hj : idxOf t.tags v.n = t.tags.length := by unfold idxOf; rw [if_pos hneg]
      rw [hj]
      clear hj
      by_cases hin : t.tags.length < t.next.length
      · refine Calls.mono (R := fun e w' => Below w.heap.size w w' ∧ ∃ b' o', e = Ending.returned (.pointer (some ⟨b', o', none⟩)) ∧ TmAt m b' o' t.next[t.tags.length]) ?_ (fun e w' h => ⟨h.1, by rw [dif_pos hin]; exact h.2⟩)
        obtain ⟨b2, o2, rfl, hT2⟩ := (HN.out t.tags.length hin).tm
        have HR := Lib.hid (show ∃ b' o', Ending.returned (.pointer (some ⟨b2, o2 + t.tags.length * 8, none⟩)) = Ending.returned (.pointer (some ⟨b', o', none⟩)) ∧ TmAt m b' o' t.next[t.tags.length] from ⟨_, _, rfl, hT2⟩)
        clear hT2 HN hn
        go_enter Try.func75, Try.ntmps75
        go_wp2_with (go_at_call 68; refine (want_ok _).mono ?_; rintro e w3 ⟨rfl, rfl⟩)
        refine wp_region_later (by kernel_rfl) (by kernel_rfl) ?_
        repeat (go_big_quiet_step ((go_at_call 84; exact HXL.out _)))
        refine wpQuiet_nil ?_
        intro _ hw'
        obtain ⟨⟨w1, hb1⟩, hw''⟩ := hw'
        subst hw''
        have r4 := (hb1.cell (p := ⟨b, o + 4, none⟩) l1).trans q4
        have r7 := (hb1.cell (p := ⟨b, o + 7, none⟩) l1).trans q7
        go_wp2_with (go_at_call 68; refine (want_ok _).mono ?_; rintro e w3 ⟨rfl, rfl⟩)
        go_ret
        exact ⟨hb1, HR.out⟩
      · refine Calls.mono (R := fun e w' => Below w.heap.size w w' ∧ e = thrown true 0) ?_ (fun e w' h => ⟨h.1, by rw [dif_neg hin]; exact h.2⟩)
        clear HN hn
        go_enter Try.func75, Try.ntmps75
        go_wp2_with (go_at_call 68; refine (want_ok _).mono ?_; rintro e w3 ⟨rfl, rfl⟩)
        refine wp_region_later (by kernel_rfl) (by kernel_rfl) ?_
        repeat (go_big_quiet_step ((go_at_call 84; exact HXL.out _)))
        refine wpQuiet_nil ?_
        intro _ hw'
        obtain ⟨⟨w1, hb1⟩, hw''⟩ := hw'
        subst hw''
        have r4 := (hb1.cell (p := ⟨b, o + 4, none⟩) l1).trans q4
        have r7 := (hb1.cell (p := ⟨b, o + 7, none⟩) l1).trans q7
        go_wp2_with (go_at_call 68; refine (want_no _).mono ?_; rintro e w3 ⟨rfl, rfl⟩)
        exact ⟨rfl, hb1, rfl⟩
    · have hj : idxOf t.tags v.n = (idx t.tags v.n).toNat := by unfold idxOf; rw [if_neg hneg]
      obtain ⟨k, hk⟩ : ∃ k : Nat, idx t.tags v.n = k := ⟨(idx t.tags v.n).toNat, by omega⟩
      rw [hk] at hj hneg i1 i2 HXL
      have hj : idxOf t.tags v.n = k := by rw [hj]; rfl
      rw [hj]
      clear hj
      by_cases hin : k < t.next.length
      · refine Calls.mono (R := fun e w' => Below w.heap.size w w' ∧ ∃ b' o', e = Ending.returned (.pointer (some ⟨b', o', none⟩)) ∧ TmAt m b' o' t.next[k]) ?_ (fun e w' h => ⟨h.1, by rw [dif_pos hin]; exact h.2⟩)
        obtain ⟨b2, o2, rfl, hT2⟩ := (HN.out k hin).tm
        have HR := Lib.hid (show ∃ b' o', Ending.returned (.pointer (some ⟨b2, o2 + k * 8, none⟩)) = Ending.returned (.pointer (some ⟨b', o', none⟩)) ∧ TmAt m b' o' t.next[k] from ⟨_, _, rfl, hT2⟩)
        clear hT2 HN hn
        go_enter Try.func75, Try.ntmps75
        go_wp2_with (go_at_call 68; refine (want_ok _).mono ?_; rintro e w3 ⟨rfl, rfl⟩)
        refine wp_region_later (by kernel_rfl) (by kernel_rfl) ?_
        repeat (go_big_quiet_step ((go_at_call 84; exact HXL.out _)))
        refine wpQuiet_nil ?_
        intro _ hw'
        obtain ⟨⟨w1, hb1⟩, hw''⟩ := hw'
        subst hw''
        have r4 := (hb1.cell (p := ⟨b, o + 4, none⟩) l1).trans q4
        have r7 := (hb1.cell (p := ⟨b, o + 7, none⟩) l1).trans q7
        go_wp2_with (go_at_call 68; refine (want_ok _).mono ?_; rintro e w3 ⟨rfl, rfl⟩)
        go_ret
        exact ⟨hb1, HR.out⟩
      · refine Calls.mono (R := fun e w' => Below w.heap.size w w' ∧ e = thrown true 0) ?_ (fun e w' h => ⟨h.1, by rw [dif_neg hin]; exact h.2⟩)
        clear HN hn
        go_enter Try.func75, Try.ntmps75
        go_wp2_with (go_at_call 68; refine (want_ok _).mono ?_; rintro e w3 ⟨rfl, rfl⟩)
        refine wp_region_later (by kernel_rfl) (by kernel_rfl) ?_
        repeat (go_big_quiet_step ((go_at_call 84; exact HXL.out _)))
        refine wpQuiet_nil ?_
        intro _ hw'
        obtain ⟨⟨w1, hb1⟩, hw''⟩ := hw'
        subst hw''
        have r4 := (hb1.cell (p := ⟨b, o + 4, none⟩) l1).trans q4
        have r7 := (hb1.cell (p := ⟨b, o + 7, none⟩) l1).trans q7
        go_wp2_with (go_at_call 68; refine (want_no _).mono ?_; rintro e w3 ⟨rfl, rfl⟩)
        exact ⟨rfl, hb1, rfl⟩
end Go.Proofs.Ytjcgoohmhbgkiaa
