/- Copies of terms: appends of whole lists; memory that is new. Copies of terms: the walk. Copies of flat programs. -/
import Derived.Test.YtimljadlfhccpaaProg
import Derived.Test.YtimljadlfhccpaaMA
import Derived.Test.YtimljadlfhccpaaPush
import Derived.Test.YtimljadlfhccpaaMFv
import Derived.Deep.DeepCutAuto
import Derived.Test.YtimljadlfhccpaaMRel
import Derived.Deep.RegionHeld3
set_option linter.all false
set_option linter.all false
set_option linter.all false
set_option linter.all false
namespace Go.Proofs.Ytimljadlfhccpaa
open Go.RowKit
set_option maxHeartbeats 4000000

theorem infoA : (Try.prog.info? 76).map (fun i => (i.zero, i.size, i.bytes)) = some (some (.agg #[.bool false, .int .i64 0]), 2, 16) := by kernel_rfl
/-- Some elements more, of any size. -/
structure PushedN (base : Nat) (e : TypeId) (size : Nat) (w w' : World) (v v' : Value) (n : Nat) (xs : List Value) : Prop where
  own : w'.ownsRow base e size v' n xs
  gr : w.grownBy w' v.ownBlock
  new : ∀ k, v'.ownBlock = some k → v.ownBlock = some k ∨ w.heap.size ≤ k
theorem run_appendN {P : Program} {w : World} {base : Nat} {t ty e : TypeId} {i : TypeInfo} {z : Value} {size bytes : Nat} (ht : P.underlying t = some (.slice e)) (hi : P.info? e = some i) (hz : i.zero = some z)
    (hsize : i.size = size) (hby : i.bytes = bytes) (hzs : z.cells.size = size) (hsz : 0 < size) {v : Value} {n : Nat} {xs : List Value} (hown : w.ownsRow base e size v n xs)
    {a : Addr} {m c : Nat} {news : List Value} (hl : news.length = m * size) (hnews : ∀ j u, news[j]? = some u → w.cell? (a.add j) = some u) (h1 : ∀ u ∈ news, u.oneCell' = true)
    (h63 : n + m ≤ maxLen) (hbytes : (n + m) * bytes ≤ 140737488355328) (hbase : base ≤ w.heap.size) :
    ∃ v' w', (Builtin.append_ #[t, t] ty #[v, .slice (some a) m c]).run P w = .ok v' w' ∧ PushedN base e size w w' v v' (n + m) (xs ++ news) := by
  rcases hown.2 with ⟨rfl, rfl⟩ | ⟨g, cap, cur, rfl, hg, hh, hnc, hcm, hszc, htk⟩
  · have hx0 : xs = [] := List.eq_nil_of_length_eq_zero (by simpa using hown.1)
    subst hx0
    obtain ⟨v', w', hr, h2, h3, _⟩ := run_append_own (P := P) w w.heap.size t ty e i z size bytes ht hi hz hsize hby hzs hsz (.slice none 0 0) 0 [] (World.ownsRow_nil w _ e size) a m c news hl hnews h1 h63 hbytes (Nat.le_refl _)
    exact ⟨v', w', hr, ownsRow_base h2 hbase, h3, fun k hk => .inr (h2.lt k hk).1⟩
  · by_cases hfit : n + m ≤ cap
    · obtain ⟨w', hr, h2, h3⟩ := run_append_fits (P := P) w base t ty e i size ht hi hsize g n cap xs hown a m c news hl hnews h1 hfit
      exact ⟨_, w', hr, h2, h3, fun k hk => .inl hk⟩
    · obtain ⟨v', w', hr, h2, h3⟩ := run_append_arg_grows (P := P) w t ty e i z size bytes ht hi hz hsize hby hzs hsz ⟨g, 0, none⟩ n cap xs (by simpa using hown.1) (fun j u hj => hown.cells rfl j u hj) a m c news hl hnews (by omega) h63 hbytes
      exact ⟨v', w', hr, ownsRow_base h2 hbase, grownBy_none h3 _, fun k hk => .inr (h2.lt k hk).1⟩
/-- A slice that is appended: n elements, whose cells are these. -/
def SrcAt (w : World) (sv : Value) (n : Nat) (news : List Value) : Prop := (∃ a c, sv = .slice (some a) n c ∧ ∀ j u, news[j]? = some u → w.cell? (a.add j) = some u) ∨ (∃ c, sv = .slice none 0 c ∧ n = 0 ∧ news = [])
theorem run_append_nil {P : Program} {w : World} {base : Nat} {t ty e : TypeId} {i : TypeInfo} {size : Nat} (ht : P.underlying t = some (.slice e)) (hi : P.info? e = some i) {v : Value} {n : Nat} {xs : List Value} (hown : w.ownsRow base e size v n xs) (c : Nat) :
    (Builtin.append_ #[t, t] ty #[v, .slice none 0 c]).run P w = .ok v w := by
  rcases hown.2 with ⟨rfl, _⟩ | ⟨g, cap, cur, rfl, _, _, h, _⟩
  · simp [Builtin.append_, run_underlying ht, sizeOf, typeInfo, hi, Builtin.lenOf, Builtin.firstCells]
  · simp [Builtin.append_, run_underlying ht, sizeOf, typeInfo, hi, Builtin.lenOf, Builtin.firstCells, h, storeCells]
theorem run_appendS {P : Program} {w : World} {base : Nat} {t ty e : TypeId} {i : TypeInfo} {z : Value} {size bytes : Nat} (ht : P.underlying t = some (.slice e)) (hi : P.info? e = some i) (hz : i.zero = some z)
    (hsize : i.size = size) (hby : i.bytes = bytes) (hzs : z.cells.size = size) (hsz : 0 < size) {v : Value} {n : Nat} {xs : List Value} (hown : w.ownsRow base e size v n xs)
    {sv : Value} {m : Nat} {news : List Value} (hl : news.length = m * size) (hnews : SrcAt w sv m news) (h1 : ∀ u ∈ news, u.oneCell' = true)
    (h63 : n + m ≤ maxLen) (hbytes : (n + m) * bytes ≤ 140737488355328) (hbase : base ≤ w.heap.size) :
    ∃ v' w', (Builtin.append_ #[t, t] ty #[v, sv]).run P w = .ok v' w' ∧ PushedN base e size w w' v v' (n + m) (xs ++ news) := by
  rcases hnews with ⟨a, c, rfl, hc⟩ | ⟨c, rfl, rfl, rfl⟩
  · exact run_appendN ht hi hz hsize hby hzs hsz hown hl hc h1 h63 hbytes hbase
  · exact ⟨v, w, run_append_nil ht hi hown c, by simpa using hown, World.grownBy.refl w _, fun k h => .inl h⟩
theorem wp_appendS {P : Program} {w : World} {o : Oper} {act : Act} {K : Act → World → Prop} {Q : Exit → Act → World → Prop}
    (s x : Operand) {t e : TypeId} (hop : o.op = Op.call { callee := Callee.builtin Builtin.append, args := #[s, x], argTypes := #[t, t] })
    {base : Nat} {i : TypeInfo} {z : Value} {size bytes : Nat} (ht : P.underlying t = some (.slice e)) (hi : P.info? e = some i) (hz : i.zero = some z)
    (hsize : i.size = size) (hby : i.bytes = bytes) (hzs : z.cells.size = size) (hsz : 0 < size) {v : Value} {n : Nat} {xs : List Value} (hs : act.eval s = v) (hown : w.ownsRow base e size v n xs)
    {sv : Value} {m : Nat} {news : List Value} (hx : act.eval x = sv) (hl : news.length = m * size) (hnews : SrcAt w sv m news) (h1 : ∀ u ∈ news, u.oneCell' = true) (h63 : n + m ≤ maxLen) (hbytes : (n + m) * bytes ≤ 140737488355328) (hbase : base ≤ w.heap.size)
    (hK : ∀ v' w', PushedN base e size w w' v v' (n + m) (xs ++ news) → K (act.put o.dst v') w') : Oper.wp P o act w K Q := by
  obtain ⟨v', w', hrun, r⟩ := run_appendS (P := P) (ty := o.type) ht hi hz hsize hby hzs hsz hown hl hnews h1 h63 hbytes hbase
  unfold Oper.wp
  simp [execOp, hop, resolve, invoke, builtin, hs, hx, hrun, Result.andThen]
  exact hK _ _ r
theorem step_appendS {P : Program} {w : World} {ops : Array Oper} {o : Oper} {act : Act} {K : Act → World → Prop} {Q : Exit → Act → World → Prop} {E : Prop} (hg : o.guard = none)
    (s x : Operand) {t e : TypeId} (hop : o.op = Op.call { callee := Callee.builtin Builtin.append, args := #[s, x], argTypes := #[t, t] })
    {base : Nat} {i : TypeInfo} {z : Value} {size bytes : Nat} (ht : P.underlying t = some (.slice e)) (hi : P.info? e = some i) (hz : i.zero = some z)
    (hsize : i.size = size) (hby : i.bytes = bytes) (hzs : z.cells.size = size) (hsz : 0 < size) {v : Value} {n : Nat} {xs : List Value} (hs : act.eval s = v) (hown : w.ownsRow base e size v n xs)
    {sv : Value} {m : Nat} {news : List Value} (hx : act.eval x = sv) (hl : news.length = m * size) (hnews : SrcAt w sv m news) (h1 : ∀ u ∈ news, u.oneCell' = true) (h63 : n + m ≤ maxLen) (hbytes : (n + m) * bytes ≤ 140737488355328) (hbase : base ≤ w.heap.size)
    (hK : ∀ v' w', PushedN base e size w w' v v' (n + m) (xs ++ news) → K (act.put o.dst v') w') : if Region.wanted o (yielded ops act.tmps) = true then Oper.wp P o act w K Q else E := by
  rw [if_pos (by simp [Region.wanted, hg])]
  exact wp_appendS s x hop ht hi hz hsize hby hzs hsz hs hown hx hl hnews h1 h63 hbytes hbase hK
theorem wpList_appendS {P : Program} {w : World} {ops : Array Oper} {rest : List Oper} {o : Oper} {act : Act} {Q : Exit → Act → World → Prop} (hg : o.guard = none)
    (s x : Operand) {t e : TypeId} (hop : o.op = Op.call { callee := Callee.builtin Builtin.append, args := #[s, x], argTypes := #[t, t] })
    {base : Nat} {i : TypeInfo} {z : Value} {size bytes : Nat} (ht : P.underlying t = some (.slice e)) (hi : P.info? e = some i) (hz : i.zero = some z)
    (hsize : i.size = size) (hby : i.bytes = bytes) (hzs : z.cells.size = size) (hsz : 0 < size) {v : Value} {n : Nat} {xs : List Value} (hs : act.eval s = v) (hown : w.ownsRow base e size v n xs)
    {sv : Value} {m : Nat} {news : List Value} (hx : act.eval x = sv) (hl : news.length = m * size) (hnews : SrcAt w sv m news) (h1 : ∀ u ∈ news, u.oneCell' = true) (h63 : n + m ≤ maxLen) (hbytes : (n + m) * bytes ≤ 140737488355328) (hbase : base ≤ w.heap.size)
    (hK : ∀ v' w', PushedN base e size w w' v v' (n + m) (xs ++ news) → wpList P ops Q rest (act.put o.dst v') w') : wpList P ops Q (o :: rest) act w :=
  wpList_plain hg fun K hK' => wp_appendS s x hop ht hi hz hsize hby hzs hsz hs hown hx hl hnews h1 h63 hbytes hbase (fun v' w' h => hK' _ _ (hK v' w' h))
theorem add_addr (b o j : Nat) : (⟨b, o, none⟩ : Addr).add j = ⟨b, o + j, none⟩ := by cases j <;> simp [Addr.add]
theorem src_ints {m : Mp} {v : Value} {l : List Int} (h : RInts m v l) {w : World} (hm : Ag m w) : SrcAt w v l.length (l.map (.int .i64)) := by
  obtain ⟨⟨base, cap, rfl, _, _, h3⟩, _⟩ := h
  by_cases h0 : 0 < l.length
  · obtain ⟨b, o, rfl, hc⟩ := h3 h0
    refine .inl ⟨_, cap, rfl, fun j u hj => ?_⟩
    have hjl : j < l.length := by
      have := (List.getElem?_eq_some_iff.1 hj).1; simpa using this
    rw [add_addr]
    have := hm _ _ ((hc j hjl).2 0 _ rfl)
    simp only [Nat.mul_one, Nat.add_zero] at this
    rw [this]
    simp [hjl] at hj
    simp [List.getD_eq_getElem?_getD, hjl, hj]
  · have hl : l = [] := List.eq_nil_of_length_eq_zero (by omega)
    subst hl
    cases base with
    | none => exact .inr ⟨cap, rfl, rfl, rfl⟩
    | some a => exact .inl ⟨a, cap, rfl, fun j u hj => by simp at hj⟩
def atomsCells (l : List Atm) : List Value := l.flatMap atomCells
theorem atomsCells_length (l : List Atm) : (atomsCells l).length = l.length * 2 := by
  induction l with
  | nil => rfl
  | cons a r ih => simp [atomsCells, atomCells] at ih ⊢; omega
theorem atomsCells_at : ∀ (l : List Atm) (i : Nat) (hi : i < l.length) (k : Nat), k < 2 → (atomsCells l)[i * 2 + k]? = (atomCells l[i])[k]?
  | [], i, hi, _, _ => by simp at hi
  | a :: r, 0, _, k, hk => by
    simp only [atomsCells, List.flatMap_cons, Nat.zero_mul, Nat.zero_add, List.getElem_cons_zero]
    rw [List.getElem?_append_left (by simp [atomCells]; omega)]
  | a :: r, i + 1, hi, k, hk => by
    have ih := atomsCells_at r i (by simpa using hi) k hk
    simp only [atomsCells, List.flatMap_cons, List.getElem_cons_succ] at ih ⊢
    rw [List.getElem?_append_right (by simp [atomCells]; omega), ← ih]
    congr 1
    simp [atomCells]; omega
theorem src_atoms {m : Mp} {v : Value} {l : List Atm} (h : RAtoms m v l) {w : World} (hm : Ag m w) : SrcAt w v l.length (atomsCells l) := by
  obtain ⟨⟨base, cap, rfl, _, _, h3⟩, _⟩ := h
  by_cases h0 : 0 < l.length
  · obtain ⟨b, o, rfl, hc⟩ := h3 h0
    refine .inl ⟨_, cap, rfl, fun j u hj => ?_⟩
    have hjl : j < l.length * 2 := by
      have := (List.getElem?_eq_some_iff.1 hj).1; rwa [atomsCells_length] at this
    have hq : j / 2 < l.length := by omega
    rw [add_addr]
    have e : j / 2 * 2 + j % 2 = j := by omega
    rw [← e, atomsCells_at l (j / 2) hq (j % 2) (by omega)] at hj
    have hg : l.getD (j / 2) ⟨false, 0⟩ = l[j / 2] := by simp [List.getD_eq_getElem?_getD, hq]
    have := hm _ _ ((hc (j / 2) hq).2 (j % 2) u (by rw [hg]; exact hj))
    rw [show o + j / 2 * 2 + j % 2 = o + j from by omega] at this
    exact this
  · have hl : l = [] := List.eq_nil_of_length_eq_zero (by omega)
    subst hl
    cases base with
    | none => exact .inr ⟨cap, rfl, rfl, rfl⟩
    | some a => exact .inl ⟨a, cap, rfl, fun j u hj => by simp [atomsCells] at hj⟩
/-- Cells of a row that the call owns, in a memory m that holds them. -/
theorem slc_of {w : World} {base : Nat} {e : TypeId} {size : Nat} {v : Value} {n : Nat} {xs : List Value} (h : w.ownsRow base e size v n xs) (hn : n ≤ 140737488355328) {m : Mp} (hm : ∀ g o u, v.ownBlock = some g → w.cell? ⟨g, o, none⟩ = some u → m ⟨g, o, none⟩ = some u)
    {cs : Nat → List Value} (hcs : ∀ i, i < n → (cs i).length = size ∧ ∀ j u, (cs i)[j]? = some u → xs[i * size + j]? = some u) : Slc m size v n cs := by
  have hcells := h
  rcases h.2 with ⟨rfl, h2⟩ | ⟨g, cap, cur, rfl, hg, _, h3, _⟩
  · exact ⟨none, 0, by rw [h2], by omega, by omega, fun h0 => by omega⟩
  · refine ⟨_, cap, rfl, h3, by omega, fun _ => ⟨g, 0, rfl, fun i hi => ⟨(hcs i hi).1, fun j u hj => ?_⟩⟩⟩
    have h4 := hcells.cells rfl _ u ((hcs i hi).2 j u hj)
    rw [add_addr] at h4
    rw [show 0 + i * size + j = 0 + (i * size + j) from by omega]
    exact hm g _ u rfl h4
theorem ratoms_of {w0 w : World} {base : Nat} {e : TypeId} {v : Value} {l : List Atm} (h : w.ownsRow base e 2 v l.length (atomsCells l)) (hi : ∀ x ∈ l, I64 x.n) (hn : l.length ≤ 140737488355328) (h0 : w0.heap.size ≤ base) : RAtoms (newM w0 w) v l := by
  refine ⟨slc_of h hn (fun g o u hg hc => newM_of hc (by have := (h.lt g hg).1; show w0.heap.size ≤ g; omega)) (fun i hi' => ⟨rfl, fun j u hj => ?_⟩), hi⟩
  have hj2 : j < 2 := (List.getElem?_eq_some_iff.1 hj).1
  rw [atomsCells_at l i hi' j hj2]
  rw [show l.getD i ⟨false, 0⟩ = l[i] from by simp [List.getD_eq_getElem?_getD, hi']] at hj
  exact hj
theorem ownsRow_empty {w : World} {g base : Nat} {e : TypeId} (size : Nat) (h : w.heap[g]? = some (.cells #[] e (0, 0))) (hb : base ≤ g) : w.ownsRow base e size (.slice (some ⟨g, 0, none⟩) 0 0) 0 [] :=
  ⟨by simp, .inr ⟨g, 0, #[], rfl, hb, h, by omega, by simp [maxLen], by simp, by simp⟩⟩
/-- What is appended to an empty row of the call's own changes nothing that was there. -/
theorem PushedN.below {base : Nat} {e : TypeId} {size : Nat} {w w' : World} {v v' : Value} {n : Nat} {xs : List Value} (h : PushedN base e size w w' v v' n xs) {B : Nat} {w0 : World} (hb : Below B w0 w) (hB : B ≤ w.heap.size) (hbase : ∀ k, v.ownBlock = some k → B ≤ k) : Below B w0 w' := hb.grown h.gr hB hbase
theorem PushedN.kept0 {base : Nat} {e : TypeId} {size : Nat} {w w' : World} {v v' : Value} {n : Nat} {xs : List Value} (h : PushedN base e size w w' v v' n xs) : Kept v.ownBlock.toList w w' := ⟨h.gr.os, h.gr.tape, h.gr.output, h.gr.size, fun k hk hn => h.gr.block k hk (fun e => hn (by rw [← e]; simp))⟩
/-- Appended to an empty slice that has no room: nothing that was there changes. -/
theorem wp_append0 {P : Program} {w : World} {o : Oper} {act : Act} {K : Act → World → Prop} {Q : Exit → Act → World → Prop}
    (s x : Operand) {t e : TypeId} (hop : o.op = Op.call { callee := Callee.builtin Builtin.append, args := #[s, x], argTypes := #[t, t] })
    {base : Nat} {i : TypeInfo} {z : Value} {size bytes : Nat} (ht : P.underlying t = some (.slice e)) (hi : P.info? e = some i) (hz : i.zero = some z)
    (hsize : i.size = size) (hby : i.bytes = bytes) (hzs : z.cells.size = size) (hsz : 0 < size) {g : Nat} (hs : act.eval s = .slice (some ⟨g, 0, none⟩) 0 0) (hown : w.heap[g]? = some (.cells #[] e (0, 0))) (hg : base ≤ g)
    {sv : Value} {m : Nat} {news : List Value} (hx : act.eval x = sv) (hl : news.length = m * size) (hnews : SrcAt w sv m news) (h1 : ∀ u ∈ news, u.oneCell' = true) (h63 : m ≤ maxLen) (hbytes : m * bytes ≤ 140737488355328) (hbase : base ≤ w.heap.size)
    (hK : ∀ v' w', w'.ownsRow base e size v' m news → Below w.heap.size w w' → K (act.put o.dst v') w') : Oper.wp P o act w K Q := by
  have hrun : ∃ v' w', (Builtin.append_ #[t, t] o.type #[.slice (some ⟨g, 0, none⟩) 0 0, sv]).run P w = .ok v' w' ∧ w'.ownsRow base e size v' m news ∧ Below w.heap.size w w' := by
    have ho := ownsRow_empty (w := w) size hown hg
    rcases hnews with ⟨a, c, rfl, hc⟩ | ⟨c, rfl, rfl, rfl⟩
    · rcases Nat.eq_zero_or_pos m with h0 | h0
      · subst h0
        have hn : news = [] := List.eq_nil_of_length_eq_zero (by simpa using hl)
        subst hn
        refine ⟨_, w, ?_, ho, Below.refl _ _⟩
        simp [Builtin.append_, run_underlying ht, sizeOf, typeInfo, hi, Builtin.lenOf, run_firstCells_some (P := P) w i.size 0 a 0 c [] (by simp) (by simp), storeCells]
      · obtain ⟨v', w', hr, h2, h3⟩ := run_append_arg_grows (P := P) w t o.type e i z size bytes ht hi hz hsize hby hzs hsz ⟨g, 0, none⟩ 0 0 [] (by simp) (by simp) a m c news hl hc (by omega) (by omega) (by rw [Nat.zero_add]; exact hbytes)
        refine ⟨v', w', hr, ?_, ⟨h3.os, h3.tape, h3.output, h3.size, fun k hk => h3.block k hk (by simp)⟩⟩
        have := ownsRow_base h2 hbase
        simpa using this
    · exact ⟨_, w, run_append_nil ht hi ho c, ho, Below.refl _ _⟩
  obtain ⟨v', w', hrun, r1, r2⟩ := hrun
  unfold Oper.wp
  simp [execOp, hop, resolve, invoke, builtin, hs, hx, hrun, Result.andThen]
  exact hK _ _ r1 r2
theorem step_append0 {P : Program} {w : World} {ops : Array Oper} {o : Oper} {act : Act} {K : Act → World → Prop} {Q : Exit → Act → World → Prop} {E : Prop} (hgd : o.guard = none)
    (s x : Operand) {t e : TypeId} (hop : o.op = Op.call { callee := Callee.builtin Builtin.append, args := #[s, x], argTypes := #[t, t] })
    {base : Nat} {i : TypeInfo} {z : Value} {size bytes : Nat} (ht : P.underlying t = some (.slice e)) (hi : P.info? e = some i) (hz : i.zero = some z)
    (hsize : i.size = size) (hby : i.bytes = bytes) (hzs : z.cells.size = size) (hsz : 0 < size) {g : Nat} (hs : act.eval s = .slice (some ⟨g, 0, none⟩) 0 0) (hown : w.heap[g]? = some (.cells #[] e (0, 0))) (hg : base ≤ g)
    {sv : Value} {m : Nat} {news : List Value} (hx : act.eval x = sv) (hl : news.length = m * size) (hnews : SrcAt w sv m news) (h1 : ∀ u ∈ news, u.oneCell' = true) (h63 : m ≤ maxLen) (hbytes : m * bytes ≤ 140737488355328) (hbase : base ≤ w.heap.size)
    (hK : ∀ v' w', w'.ownsRow base e size v' m news → Below w.heap.size w w' → K (act.put o.dst v') w') : if Region.wanted o (yielded ops act.tmps) = true then Oper.wp P o act w K Q else E := by
  rw [if_pos (by simp [Region.wanted, hgd])]
  exact wp_append0 s x hop ht hi hz hsize hby hzs hsz hs hown hg hx hl hnews h1 h63 hbytes hbase hK
/-- What lies in w' from block n on, but in none of S. -/
def newS (n : Nat) (S : List Nat) (w' : World) : Mp := fun a => if a.block < n ∨ a.block ∈ S then none else w'.cell? a
theorem newS_sub {n : Nat} {S S' : List Nat} {w w' : World} (hk : Kept S w w') (hs : ∀ k ∈ S', k ∈ S ∨ w.heap.size ≤ k) : ∀ a v, newS n S w a = some v → newS n S' w' a = some v := by
  intro a v ha
  unfold newS at ha ⊢
  split at ha
  · cases ha
  · rename_i hn
    have hlt := World.block_lt_of_cell? w a ha
    rw [if_neg (fun h => by
      rcases h with h | h
      · exact hn (.inl h)
      · rcases hs _ h with h | h
        · exact hn (.inr h)
        · omega)]
    exact hk.cell ha (fun h => hn (.inr h))
theorem newS_of {n : Nat} {S : List Nat} {w : World} {a : Addr} {v : Value} (h : w.cell? a = some v) (hn : n ≤ a.block) (hs : a.block ∉ S) : newS n S w a = some v := by
  unfold newS; rw [if_neg (by rintro (h | h); omega; exact hs h)]; exact h
theorem newS_M {n : Nat} {S : List Nat} {w0 w : World} (h : w0.heap.size ≤ n) : ∀ a v, newS n S w a = some v → newM w0 w a = some v := by
  intro a v ha
  unfold newS at ha
  split at ha
  · cases ha
  · rename_i hn; exact newM_of ha (by have : ¬ a.block < n := fun h => hn (.inl h); omega)
theorem newM_S {n : Nat} {S : List Nat} {w0 w : World} (h : n ≤ w0.heap.size) (hs : ∀ k ∈ S, k < w0.heap.size) : ∀ a v, newM w0 w a = some v → newS n S w a = some v := by
  intro a v ha
  unfold newM at ha
  split at ha
  · cases ha
  · rename_i hn; exact newS_of ha (by omega) (fun h => by have := hs _ h; omega)
/-- A function's cells, the i-th of a row. -/
def FunRow (M : Mp) (xs : List Value) (i : Nat) (f : Int × List Int × Term) : Prop := ∃ (vp : Value) (c : List Value), c.length = 8 ∧ (∀ k v, ([Value.int .i64 f.1, vp] ++ c)[k]? = some v → xs[i * 10 + k]? = some v) ∧ RInts M vp f.2.1 ∧ RTerm M c f.2.2
def TermRow (M : Mp) (xs : List Value) (i : Nat) (t : Term) : Prop := ∃ c : List Value, c.length = 8 ∧ (∀ k v, c[k]? = some v → xs[i * 8 + k]? = some v) ∧ RTerm M c t
theorem FunRow.mono {M M' : Mp} (h : ∀ a v, M a = some v → M' a = some v) {xs xs' : List Value} (hx : ∀ (k : Nat) (v : Value), xs[k]? = some v → xs'[k]? = some v) {i : Nat} {f : Int × List Int × Term} (hr : FunRow M xs i f) : FunRow M' xs' i f := by
  obtain ⟨vp, c, h1, h2, h3, h4⟩ := hr
  exact ⟨vp, c, h1, fun k v hk => hx _ _ (h2 k v hk), RInts.mono h h3, h4.mono h⟩
theorem TermRow.mono {M M' : Mp} (h : ∀ a v, M a = some v → M' a = some v) {xs xs' : List Value} (hx : ∀ (k : Nat) (v : Value), xs[k]? = some v → xs'[k]? = some v) {i : Nat} {t : Term} (hr : TermRow M xs i t) : TermRow M' xs' i t := by
  obtain ⟨c, h1, h2, h4⟩ := hr
  exact ⟨c, h1, fun k v hk => hx _ _ (h2 k v hk), h4.mono h⟩
theorem append_at {α : Type} (xs ys : List α) : ∀ (k : Nat) (v : α), xs[k]? = some v → (xs ++ ys)[k]? = some v := fun k v h => by
  rw [List.getElem?_append_left (List.getElem?_eq_some_iff.1 h).1]; exact h
theorem append_at2 {α : Type} (xs ys : List α) (n : Nat) (hn : xs.length = n) : ∀ (k : Nat) (v : α), ys[k]? = some v → (xs ++ ys)[n + k]? = some v := fun k v h => by
  rw [List.getElem?_append_right (by omega), hn, Nat.add_sub_cancel_left]; exact h
theorem rterm_len {m : Mp} {c : List Value} {t : Term} (h : RTerm m c t) : c.length = 8 := by cases h; rfl
/-- A term is made of its parts. -/
theorem rterm_make {M : Mp} {t : Term} {vt va vf vn : Value} {xf xn : List Value} {w : World} {base bn : Nat} {ef en : TypeId} (ik : I64 t.kind) (ix : I64 t.x) (inn : I64 t.n) (ht : RInts M vt t.tags) (ha : RAtoms M va t.args)
    (hf : w.ownsRow base ef 10 vf t.funs.length xf) (hn : w.ownsRow bn en 8 vn t.next.length xn) (hfl : t.funs.length ≤ 140737488355328) (hnl : t.next.length ≤ 140737488355328)
    (hMf : ∀ g o u, vf.ownBlock = some g → w.cell? ⟨g, o, none⟩ = some u → M ⟨g, o, none⟩ = some u) (hMn : ∀ g o u, vn.ownBlock = some g → w.cell? ⟨g, o, none⟩ = some u → M ⟨g, o, none⟩ = some u)
    (hF : ∀ i (hi : i < t.funs.length), FunRow M xf i t.funs[i]) (hN : ∀ i (hi : i < t.next.length), TermRow M xn i t.next[i]) (hI : ∀ i (hi : i < t.funs.length), I64 t.funs[i].1) :
    RTerm M [.int .i64 t.kind, .int .i64 t.x, .int .i64 t.n, .bool t.ints, vt, va, vf, vn] t := by
  have hF' : ∀ i, ∃ p : Value × List Value, ∀ hi : i < t.funs.length, p.2.length = 8 ∧ (∀ k v, ([Value.int .i64 t.funs[i].1, p.1] ++ p.2)[k]? = some v → xf[i * 10 + k]? = some v) ∧ RInts M p.1 t.funs[i].2.1 ∧ RTerm M p.2 t.funs[i].2.2 := fun i => by
    by_cases hi : i < t.funs.length
    · obtain ⟨vp, c, h⟩ := hF i hi
      exact ⟨(vp, c), fun _ => h⟩
    · exact ⟨(vt, []), fun h => absurd h hi⟩
  have hN' : ∀ i, ∃ c : List Value, ∀ hi : i < t.next.length, c.length = 8 ∧ (∀ k v, c[k]? = some v → xn[i * 8 + k]? = some v) ∧ RTerm M c t.next[i] := fun i => by
    by_cases hi : i < t.next.length
    · obtain ⟨c, h⟩ := hN i hi
      exact ⟨c, fun _ => h⟩
    · exact ⟨[], fun h => absurd h hi⟩
  obtain ⟨pf, hpf⟩ := Classical.skolem.1 hF'
  obtain ⟨cn, hcn⟩ := Classical.skolem.1 hN'
  obtain ⟨k, x, n, ints, tags, args, funs, next⟩ := t
  refine RTerm.mk k x n ints tags args funs next vt va vf vn (fun i => .int .i64 (funs.getD i (0, [], .mk 0 0 0 false [] [] [] [])).1 :: (pf i).1 :: (pf i).2) cn (fun i => (pf i).2) (fun i => (pf i).1) ik ix inn ht ha ?_ ?_ (fun i f hi => ?_) (fun i f hi => ?_) (fun i s hi => ?_)
  · refine slc_of hf hfl hMf (fun i hi => ?_)
    obtain ⟨h1, h2, _⟩ := hpf i hi
    refine ⟨by simp [h1], fun j u hj => h2 j u ?_⟩
    have hg : funs.getD i (0, [], .mk 0 0 0 false [] [] [] []) = funs[i]'hi := by rw [List.getD_eq_getElem?_getD, List.getElem?_eq_getElem (show i < funs.length from hi)]; rfl
    rw [hg] at hj
    exact hj
  · refine slc_of hn hnl hMn (fun i hi => ?_)
    obtain ⟨h1, h2, _⟩ := hcn i hi
    exact ⟨h1, h2⟩
  · obtain ⟨hi', rfl⟩ := List.getElem?_eq_some_iff.1 hi
    obtain ⟨_, _, h3, _⟩ := hpf i hi'
    have hg : funs.getD i (0, [], .mk 0 0 0 false [] [] [] []) = funs[i]'hi' := by rw [List.getD_eq_getElem?_getD, List.getElem?_eq_getElem (show i < funs.length from hi')]; rfl
    exact ⟨by rw [hg], h3, hI i hi'⟩
  · obtain ⟨hi', rfl⟩ := List.getElem?_eq_some_iff.1 hi
    exact (hpf i hi').2.2.2
  · obtain ⟨hi', rfl⟩ := List.getElem?_eq_some_iff.1 hi
    exact (hcn i hi').2.2
theorem src_new (W : World) (cs : List Value) (t : TypeId) (n c : Nat) : SrcAt (W.alloc (.cells cs.toArray t)) (.slice (some ⟨W.heap.size, 0, none⟩) n c) n cs :=
  .inl ⟨_, c, rfl, fun j u hj => by rw [add_addr, Nat.zero_add]; exact (BoxAt.new W cs t).2 j u hj⟩
theorem newM_to {n : Nat} {S S' : List Nat} {wa wb wc : World} (hn : n ≤ wa.heap.size) (hk : Kept S wb wc) (hS : ∀ k ∈ S, k < wa.heap.size) (hS' : ∀ k ∈ S', k ∈ S ∨ wb.heap.size ≤ k) : ∀ a v, newM wa wb a = some v → newS n S' wc a = some v := by
  intro a v ha
  unfold newM at ha
  split at ha
  · cases ha
  · rename_i hlt
    have hb := World.block_lt_of_cell? wb a ha
    exact newS_of (hk.cell ha (fun h => by have := hS _ h; omega)) (by omega) (fun h => by
      rcases hS' _ h with h | h
      · have := hS _ h; omega
      · omega)
end Go.Proofs.Ytimljadlfhccpaa
set_option linter.all false
set_option linter.all false
namespace Go.Proofs.Ytimljadlfhccpaa
open Go.RowKit
set_option maxHeartbeats 4000000

/-- A term's lists are all of at most so many. -/
inductive Few (B : Nat) : Term → Prop where
  | mk (t : Term) (h1 : t.tags.length ≤ B) (h2 : t.args.length ≤ B) (h3 : t.funs.length ≤ B) (h4 : t.next.length ≤ B) (hp : ∀ f ∈ t.funs, f.2.1.length ≤ B) (hf : ∀ f ∈ t.funs, Few B f.2.2) (hn : ∀ s ∈ t.next, Few B s) : Few B t
def CopyPost (w : World) (t : Term) (e : Ending) (w' : World) : Prop := ∃ c : List Value, e = .returned (.agg c.toArray) ∧ Below w.heap.size w w' ∧ RTerm (newM w w') c t
def CopySpec (t : Term) : Prop := Few 2097152 t → ∀ (m : Mp) (c : List Value), RTerm m c t → ∀ w, Ag m w → Calls Try.prog 16 #[.agg c.toArray] w (CopyPost w t)
/-- What the operations that copy the tags and the atoms tell. -/
def cpPost (B0 : Nat) (t : Term) (tb : Option Addr) (tc : Nat) (ab : Option Addr) (ac : Nat) (B1 : Nat) : Nat → Value → World → Prop
  | 0, v, w => ∃ g, v = .slice (some ⟨g, 0, none⟩) 0 0 ∧ B0 ≤ g ∧ w.heap[g]? = some (.cells #[] 3 (0, 0))
  | 1, v, _ => v = .pointer (some ⟨B1, 4, none⟩)
  | 2, v, _ => v = .slice tb t.tags.length tc
  | 3, v, w => w.ownsRow B0 3 1 v t.tags.length (t.tags.map (.int .i64))
  | 4, v, w => ∃ g, v = .slice (some ⟨g, 0, none⟩) 0 0 ∧ B0 ≤ g ∧ w.heap[g]? = some (.cells #[] 76 (0, 0))
  | 5, v, _ => v = .pointer (some ⟨B1, 5, none⟩)
  | 6, v, _ => v = .slice ab t.args.length ac
  | 7, v, w => w.ownsRow B0 76 2 v t.args.length (atomsCells t.args)
  | 8, v, _ => v = .pointer (some ⟨B1, 4, none⟩)
  | _, _, _ => True
theorem cpPost_stable {B0 : Nat} {t : Term} {tb : Option Addr} {tc : Nat} {ab : Option Addr} {ac : Nat} {B1 : Nat} : ∀ i v w w', cpPost B0 t tb tc ab ac B1 i v w → Below w.heap.size w w' → cpPost B0 t tb tc ab ac B1 i v w' := by
  intro i v w w' h hb
  match i, h with
  | 0, ⟨g, h1, h2, h3⟩ => exact ⟨g, h1, h2, (hb.block g (Array.getElem?_eq_some_iff.1 h3).1).trans h3⟩
  | 1, h => exact h
  | 2, h => exact h
  | 3, h => exact ownsRow_below h hb
  | 4, ⟨g, h1, h2, h3⟩ => exact ⟨g, h1, h2, (hb.block g (Array.getElem?_eq_some_iff.1 h3).1).trans h3⟩
  | 5, h => exact h
  | 6, h => exact h
  | 7, h => exact ownsRow_below h hb
  | 8, h => exact h
  | n + 9, h => trivial
theorem atomsCells_one (l : List Atm) : ∀ u ∈ atomsCells l, u.oneCell' = true := by
  intro u hu
  simp only [atomsCells, List.mem_flatMap] at hu
  obtain ⟨a, _, h⟩ := hu
  simp only [atomCells, List.mem_cons, List.not_mem_nil, or_false] at h
  rcases h with rfl | rfl <;> rfl
theorem intsCells_one (l : List Int) : ∀ u ∈ l.map (Value.int .i64), u.oneCell' = true := by
  intro u hu
  obtain ⟨a, _, rfl⟩ := List.mem_map.1 hu
  rfl
theorem infoF : (Try.prog.info? 42).map (fun i => (i.zero, i.size, i.bytes)) = some (some (.agg #[.int .i64 0, .slice none 0 0, .int .i64 0, .int .i64 0, .int .i64 0, .bool false, .slice none 0 0, .slice none 0 0, .slice none 0 0, .slice none 0 0]), 10, 160) := by kernel_rfl
theorem infoT : (Try.prog.info? 34).map (fun i => (i.zero, i.size, i.bytes)) = some (some (.agg #[.int .i64 0, .int .i64 0, .int .i64 0, .bool false, .slice none 0 0, .slice none 0 0, .slice none 0 0, .slice none 0 0]), 8, 128) := by kernel_rfl
/-- What stands while a term is copied. -/
structure CpSt (w : World) (t : Term) (fb : Option Addr) (fcap : Nat) (nb : Option Addr) (ncap : Nat) (v3 v7 : Value) (wr : World) (S : List Nat) : Prop where
  bel : Below w.heap.size w wr
  size : w.heap.size + 1 < wr.heap.size
  box : ∀ k v, [Value.int .i64 t.kind, .int .i64 t.x, .int .i64 t.n, .bool t.ints, v3, v7, .slice fb t.funs.length fcap, .slice nb t.next.length ncap][k]? = some v → wr.cell? ⟨w.heap.size, k, none⟩ = some v
  bz : ∀ k, wr.frozen? ⟨w.heap.size, k, none⟩ = false
  res : ∀ k v, [Value.int .i64 0, .int .i64 0, .int .i64 0, .bool false, .slice none 0 0, .slice none 0 0, .slice none 0 0, .slice none 0 0][k]? = some v → wr.cell? ⟨w.heap.size + 1, k, none⟩ = some v
  rz : ∀ k, wr.frozen? ⟨w.heap.size + 1, k, none⟩ = false
  tags : RInts (newS (w.heap.size + 2) S wr) v3 t.tags
  args : RAtoms (newS (w.heap.size + 2) S wr) v7 t.args
theorem RAtoms.mono {m m' : Mp} (h : ∀ a v, m a = some v → m' a = some v) {v : Value} {l : List Atm} (hr : RAtoms m v l) : RAtoms m' v l := ⟨hr.1.mono h, hr.2⟩
theorem CpSt.go {w : World} {t : Term} {fb : Option Addr} {fcap : Nat} {nb : Option Addr} {ncap : Nat} {v3 v7 : Value} {wr w' : World} {S S' : List Nat} (h : CpSt w t fb fcap nb ncap v3 v7 wr S) (hk : Kept S wr w') (hS : ∀ k ∈ S, w.heap.size + 2 ≤ k) (hs : ∀ k ∈ S', k ∈ S ∨ wr.heap.size ≤ k) : CpSt w t fb fcap nb ncap v3 v7 w' S' := by
  have hsz := h.size
  have n0 : w.heap.size ∉ S := fun hm => by have := hS _ hm; omega
  have n1 : w.heap.size + 1 ∉ S := fun hm => by have := hS _ hm; omega
  exact ⟨h.bel.trans (hk.toBelow h.bel.size (fun k hm => by have := hS k hm; omega)), Nat.lt_of_lt_of_le h.size hk.size, fun k v hv => hk.cell (h.box k v hv) n0, fun k => (World.frozen?_of_block (a := ⟨w.heap.size, k, none⟩) (hk.block _ (show w.heap.size < wr.heap.size by omega) n0)).trans (h.bz k),
    fun k v hv => hk.cell (h.res k v hv) n1, fun k => (World.frozen?_of_block (a := ⟨w.heap.size + 1, k, none⟩) (hk.block _ (show w.heap.size + 1 < wr.heap.size by omega) n1)).trans (h.rz k), RInts.mono (newS_sub hk hs) h.tags, RAtoms.mono (newS_sub hk hs) h.args⟩
set_option maxRecDepth 100000 in
theorem copy_step (t : Term) (ihf : ∀ f ∈ t.funs, CopySpec f.2.2) (ihn : ∀ s ∈ t.next, CopySpec s) : CopySpec t := by
  intro hsm m c hr w hm
  obtain ⟨tb, tc, ab, ac, fb, fcap, nb, ncap, rfl, O⟩ := hr.opn
  have hbx := BoxAt.new w [.int .i64 t.kind, .int .i64 t.x, .int .i64 t.n, .bool t.ints, .slice tb t.tags.length tc, .slice ab t.args.length ac, .slice fb t.funs.length fcap, .slice nb t.next.length ncap] 34
  obtain ⟨i1, hi1, hz1, hs1, hy1⟩ := info_parts infoI
  obtain ⟨i2, hi2, hz2, hs2, hy2⟩ := info_parts infoA
  obtain ⟨i3, hi3, hz3, hs3, hy3⟩ := info_parts infoF
  obtain ⟨i4, hi4, hz4, hs4, hy4⟩ := info_parts infoT
  have HIF := Lib.hid ihf
  have HIN := Lib.hid ihn
  have HSM := Lib.hid hsm
  have HM := Lib.hid hm
  have HO := Lib.hid O
  have HBX := Lib.hid hbx
  have nle := O.nle
  have nbd := O.nbd
  have fle := O.fle
  have fbd := O.fbd
  clear hm O hr hbx ihf ihn hsm
  go_enter Try.func16, Try.ntmps16
  go_wp2_with fail
  have hb2 := bgo (below_box w (.cells #[.int .i64 t.kind, .int .i64 t.x, .int .i64 t.n, .bool t.ints, .slice tb t.tags.length tc, .slice ab t.args.length ac, .slice fb t.funs.length fcap, .slice nb t.next.length ncap] 34)) (below_box _ (.cells #[.int .i64 0, .int .i64 0, .int .i64 0, .bool false, .slice none 0 0, .slice none 0 0, .slice none 0 0, .slice none 0 0] 34))
  refine wp_region_rel [9, 10, 11] (fun a b => Below a.heap.size a b) (cpPost (w.heap.size + 1 + 1) t tb tc ab ac w.heap.size) (by kernel_rfl) (by kernel_rfl) (fun _ _ _ h k => bgo h k) (Below.refl _ _) cpPost_stable (by kernel_rfl) ?_ ?_
  · refine ⟨?_, ?_, ?_, ?_, ?_, ?_, ?_, ?_, ?_, ?_, ?_, ?_, trivial⟩
    all_goals (first | (rw [if_pos (by decide)]; trivial) | rw [if_neg (by decide)])
    · intro a w1 hR hold hpre K hK
      clear hold hpre
      go_simp
      exact hK _ _ (below_box _ _) ⟨w1.heap.size, rfl, by have := hR.size; simp at this; omega, heap_alloc_new _ _⟩
    · intro a w1 hR hold hpre K hK
      have h1 := hold 1 (by decide)
      simp [Act.eval] at h1
      clear hold hpre
      go_simp
      exact hK _ _ (Below.refl _ _) rfl
    · intro a w1 hR hold hpre K hK
      have h8 := hpre 1 _ 8 rfl rfl (by kernel_rfl)
      simp [Act.eval, cpPost] at h8
      clear hold hpre
      have c4 := (hR.cell (p := ⟨w.heap.size, 4, none⟩) (by simp; omega)).trans ((HBX.out.later (below_box _ _)).2 4 _ rfl)
      go_simp
      exact hK _ _ (Below.refl _ _) rfl
    · intro a w1 hR hold hpre K hK
      obtain ⟨g, h7, hg, hgh⟩ := hpre 0 _ 7 rfl rfl (by kernel_rfl)
      have h9 := hpre 2 _ 9 rfl rfl (by kernel_rfl)
      have hsz := hR.size
      simp at hsz
      refine wp_append0 (.tmp 7) (.tmp 9) rfl Try.underlying30 hi1 hz1 hs1 hy1 rfl (by decide) h7 hgh hg h9 (by simp) (src_ints HO.out.tags (HM.out.later (bgo hb2 (bgo (Below.refl _ _).drew hR)))) (intsCells_one _) (by have := HSM.out; cases this; unfold maxLen; omega) (by have := HSM.out; cases this; omega) (by omega) (fun v' w' ho hb => hK _ _ hb ho)
    · intro a w1 hR hold hpre K hK
      clear hold hpre
      go_simp
      exact hK _ _ (below_box _ _) ⟨w1.heap.size, rfl, by have := hR.size; simp at this; omega, heap_alloc_new _ _⟩
    · intro a w1 hR hold hpre K hK
      have h1 := hold 1 (by decide)
      simp [Act.eval] at h1
      clear hold hpre
      go_simp
      exact hK _ _ (Below.refl _ _) rfl
    · intro a w1 hR hold hpre K hK
      have h8 := hpre 5 _ 12 rfl rfl (by kernel_rfl)
      simp [Act.eval, cpPost] at h8
      clear hold hpre
      have c4 := (hR.cell (p := ⟨w.heap.size, 5, none⟩) (by simp; omega)).trans ((HBX.out.later (below_box _ _)).2 5 _ rfl)
      go_simp
      exact hK _ _ (Below.refl _ _) rfl
    · intro a w1 hR hold hpre K hK
      obtain ⟨g, h7, hg, hgh⟩ := hpre 4 _ 11 rfl rfl (by kernel_rfl)
      have h9 := hpre 6 _ 13 rfl rfl (by kernel_rfl)
      have hsz := hR.size
      simp at hsz
      refine wp_append0 (.tmp 11) (.tmp 13) rfl Try.underlying31 hi2 hz2 hs2 hy2 rfl (by decide) h7 hgh hg h9 (atomsCells_length _) (src_atoms HO.out.args (HM.out.later (bgo hb2 (bgo (Below.refl _ _).drew hR)))) (atomsCells_one _) (by have := HSM.out; cases this; unfold maxLen; omega) (by have := HSM.out; cases this; omega) (by omega) (fun v' w' ho hb => hK _ _ hb ho)
    · intro a w1 hR hold hpre K hK
      have h1 := hold 1 (by decide)
      simp [Act.eval] at h1
      clear hold hpre
      go_simp
      exact hK _ _ (Below.refl _ _) rfl
  · intro vals w3 hR hv
    have p3 := hv 3 _ 10 rfl rfl (by kernel_rfl)
    have p7 := hv 7 _ 14 rfl rfl (by kernel_rfl)
    have e1 : vals 1 = .pointer (some ⟨w.heap.size, 4, none⟩) := hv 1 _ 8 rfl rfl (by kernel_rfl)
    have e5 : vals 5 = .pointer (some ⟨w.heap.size, 5, none⟩) := hv 5 _ 12 rfl rfl (by kernel_rfl)
    have e8 : vals 8 = .pointer (some ⟨w.heap.size, 4, none⟩) := hv 8 _ 15 rfl rfl (by kernel_rfl)
    obtain ⟨v3, hv3⟩ : ∃ v, vals 3 = v := ⟨_, rfl⟩
    obtain ⟨v7, hv7⟩ : ∃ v, vals 7 = v := ⟨_, rfl⟩
    rw [hv3] at p3
    rw [hv7] at p7
    simp only [fillA, List.contains_cons, List.contains_nil, Nat.reduceAdd, Nat.reduceBEq, Bool.or_false, Bool.or_true, Bool.false_eq_true, if_true, if_false, Act.put, List.setIfInBounds_toArray, List.set_cons_zero, List.set_cons_succ, e1, e5, e8, hv3, hv7]
    simp only [List.filterMap_cons, List.filterMap_nil, List.getElem?_toArray, List.getElem?_cons_succ, List.getElem?_cons_zero]
    obtain ⟨a3, c3, rfl⟩ := ownsRow_slice p3
    obtain ⟨a7, c7, rfl⟩ := ownsRow_slice p7
    have hbx3 := (HBX.out.later (below_box _ (.cells #[.int .i64 0, .int .i64 0, .int .i64 0, .bool false, .slice none 0 0, .slice none 0 0, .slice none 0 0, .slice none 0 0] 34))).later (bgo (Below.refl _ _).drew hR)
    have q4 := hbx3.2 4 _ rfl
    have q5 := hbx3.2 5 _ rfl
    have hnc := new_cells (W := w) (cs := [.int .i64 t.kind, .int .i64 t.x, .int .i64 t.n, .bool t.ints, .slice tb t.tags.length tc, .slice ab t.args.length ac, .slice fb t.funs.length fcap, .slice nb t.next.length ncap]) (t := 34) (b := w.heap.size) (bgo (below_box _ (.cells #[.int .i64 0, .int .i64 0, .int .i64 0, .bool false, .slice none 0 0, .slice none 0 0, .slice none 0 0, .slice none 0 0] 34)) (bgo (Below.refl _ _).drew hR)) rfl
    have hnc2 := new_cells (W := w.alloc (.cells #[.int .i64 t.kind, .int .i64 t.x, .int .i64 t.n, .bool t.ints, .slice tb t.tags.length tc, .slice ab t.args.length ac, .slice fb t.funs.length fcap, .slice nb t.next.length ncap] 34)) (cs := [.int .i64 0, .int .i64 0, .int .i64 0, .bool false, .slice none 0 0, .slice none 0 0, .slice none 0 0, .slice none 0 0]) (t := 34) (b := w.heap.size + 1) (bgo (Below.refl _ _).drew hR) (by simp)
    have z4 := hnc.2 4
    have z5 := hnc.2 5
    have hst : CpSt w t fb fcap nb ncap (.slice a3 t.tags.length c3) (.slice a7 t.args.length c7) ((w3.setCell ⟨w.heap.size, 4, none⟩ (.slice a3 t.tags.length c3)).setCell ⟨w.heap.size, 5, none⟩ (.slice a7 t.args.length c7)) [] := by
      have hbw := bgo hb2 (bgo (Below.refl _ _).drew hR)
      have hsz : w.heap.size + 1 < w3.heap.size := by have := hR.size; simp at this; omega
      have hkk : Kept [w.heap.size] w3 ((w3.setCell ⟨w.heap.size, 4, none⟩ (.slice a3 t.tags.length c3)).setCell ⟨w.heap.size, 5, none⟩ (.slice a7 t.args.length c7)) := (kept_setCell (by simp) w3 4 _).trans (kept_setCell (by simp) _ 5 _)
      have hsub : ∀ a v, newS (w.heap.size + 2) [] w3 a = some v → newS (w.heap.size + 2) [] ((w3.setCell ⟨w.heap.size, 4, none⟩ (.slice a3 t.tags.length c3)).setCell ⟨w.heap.size, 5, none⟩ (.slice a7 t.args.length c7)) a = some v := fun a v ha => by
        unfold newS at ha
        split at ha
        · cases ha
        · rename_i hn
          have hn' : ¬ a.block < w.heap.size + 2 := fun h => hn (.inl h)
          exact newS_of (hkk.cell ha (by simp; omega)) (by omega) (by simp)
      refine ⟨hbw.trans (hkk.toBelow hbw.size (by simp)), Nat.lt_of_lt_of_le hsz hkk.size, fun k v hv => ?_, fun k => by rw [World.frozen?_setCell, World.frozen?_setCell]; exact hnc.2 k, fun k v hv => hkk.cell (hnc2.1.2 k v hv) (by simp), fun k => by rw [World.frozen?_setCell, World.frozen?_setCell]; exact hnc2.2 k, ?_, ?_⟩
      · match k, hv with
        | 0, hv => exact (World.cell?_setCell_other _ _ _ _ (by simp)).trans ((World.cell?_setCell_other _ _ _ _ (by simp)).trans (by simp at hv; subst hv; exact hbx3.2 0 _ rfl))
        | 1, hv => exact (World.cell?_setCell_other _ _ _ _ (by simp)).trans ((World.cell?_setCell_other _ _ _ _ (by simp)).trans (by simp at hv; subst hv; exact hbx3.2 1 _ rfl))
        | 2, hv => exact (World.cell?_setCell_other _ _ _ _ (by simp)).trans ((World.cell?_setCell_other _ _ _ _ (by simp)).trans (by simp at hv; subst hv; exact hbx3.2 2 _ rfl))
        | 3, hv => exact (World.cell?_setCell_other _ _ _ _ (by simp)).trans ((World.cell?_setCell_other _ _ _ _ (by simp)).trans (by simp at hv; subst hv; exact hbx3.2 3 _ rfl))
        | 4, hv => exact (World.cell?_setCell_other _ _ _ _ (by simp)).trans (by simp at hv; subst hv; exact World.cell?_setCell_same _ _ _ q4)
        | 5, hv => simp at hv; subst hv; exact World.cell?_setCell_same _ _ _ ((World.cell?_setCell_other _ _ _ _ (by simp)).trans q5)
        | 6, hv => exact (World.cell?_setCell_other _ _ _ _ (by simp)).trans ((World.cell?_setCell_other _ _ _ _ (by simp)).trans (by simp at hv; subst hv; exact hbx3.2 6 _ rfl))
        | 7, hv => exact (World.cell?_setCell_other _ _ _ _ (by simp)).trans ((World.cell?_setCell_other _ _ _ _ (by simp)).trans (by simp at hv; subst hv; exact hbx3.2 7 _ rfl))
        | k + 8, hv => simp at hv
      · refine RInts.mono (fun a v ha => hsub a v ?_) (rints_of (w0 := (w.alloc (.cells #[.int .i64 t.kind, .int .i64 t.x, .int .i64 t.n, .bool t.ints, .slice tb t.tags.length tc, .slice ab t.args.length ac, .slice fb t.funs.length fcap, .slice nb t.next.length ncap] 34)).alloc (.cells #[.int .i64 0, .int .i64 0, .int .i64 0, .bool false, .slice none 0 0, .slice none 0 0, .slice none 0 0, .slice none 0 0] 34)) p3 HO.out.tags.2 HO.out.tags.len (by simp))
        exact newM_S (by simp) (by simp) a v ha
      · refine RAtoms.mono (fun a v ha => hsub a v ?_) (ratoms_of (w0 := (w.alloc (.cells #[.int .i64 t.kind, .int .i64 t.x, .int .i64 t.n, .bool t.ints, .slice tb t.tags.length tc, .slice ab t.args.length ac, .slice fb t.funs.length fcap, .slice nb t.next.length ncap] 34)).alloc (.cells #[.int .i64 0, .int .i64 0, .int .i64 0, .bool false, .slice none 0 0, .slice none 0 0, .slice none 0 0, .slice none 0 0] 34)) p7 HO.out.args.2 HO.out.args.len (by simp))
        exact newM_S (by simp) (by simp) a v ha
    have HST := Lib.hid hst
    clear hst hnc hnc2 hbx3 p3 p7 e1 e5 e8 hv3 hv7 hv hR hb2
    generalize vals 0 = u0
    generalize vals 2 = u2
    generalize vals 4 = u4
    generalize vals 6 = u6
    go_wp2_with fail
    clear q4 q5 z4 z5
    go_loopg [3, 4] (t.funs.length) (fun g x3 x4 wr => ∃ (j : Nat) (v : Value) (xs : List Value), j + g = t.funs.length ∧ x3 = v ∧ x4 = .int .i64 j ∧ Hid (CpSt w t fb fcap nb ncap (.slice a3 t.tags.length c3) (.slice a7 t.args.length c7) wr v.ownBlock.toList) ∧ Hid (wr.ownsRow (w.heap.size + 2) 42 10 v j xs) ∧
      Hid (∀ i, i < j → ∀ hi : i < t.funs.length, FunRow (newS (w.heap.size + 2) v.ownBlock.toList wr) xs i t.funs[i]))
    case atStart => exact ⟨0, _, [], by omega, rfl, rfl, HST, Lib.hid (World.ownsRow_nil _ _ _ _), Lib.hid (fun i h => by omega)⟩
    case round =>
      obtain ⟨j, v, xs, hj, rfl, rfl, hS, hO, hR⟩ := hrel
      obtain ⟨va, vc, rfl⟩ := ownsRow_slice hO.out
      have c6 := hS.out.box 6 _ rfl
      by_cases hlt : j < t.funs.length
      · obtain ⟨b, o, pb', pc, tb', tc', ab', ac', fb', fc', nb', nc', rfl, ik, hpp, hrt, hcell⟩ := HO.out.funsAt j hlt
        have hm := HM.out.later hS.out.bel
        obtain ⟨x0, x1, e0, e1, e2, e3, e4, e5, e6, e7⟩ := hcell _ hm
        obtain ⟨y1, y2, y3, y4, y5, y6, y7⟩ := flat7 e1 e2 e3 e4 e5 e6 e7
        have hfew := HSM.out
        have hCP := Lib.hid (fun (wx : World) (hb : Below wr.heap.size wr wx) => HIF.out t.funs[j] (List.getElem_mem hlt) (by cases hfew; rename_i hf _; exact hf _ (List.getElem_mem hlt)) m _ hrt wx (hm.later hb))
        have hpl : t.funs[j].2.1.length ≤ 2097152 := by cases hfew; rename_i hp _ _; exact hp _ (List.getElem_mem hlt)
        have hfl : t.funs.length ≤ 2097152 := by cases hfew; assumption
        have HPP := Lib.hid hpp
        have HQ : Hid (∀ w', Kept (Value.slice va j vc).ownBlock.toList wr w' → w'.cell? ⟨w.heap.size, 6, none⟩ = some (.slice (some ⟨b, o, none⟩) t.funs.length fcap) ∧ w'.cell? ⟨b, o + j * 10, none⟩ = some (.int .i64 t.funs[j].1) ∧ w'.cell? ⟨b, o + j * 10 + 1, none⟩ = some (.slice pb' t.funs[j].2.1.length pc) ∧ w'.cell? ⟨b, o + j * 10 + 2, none⟩ = some (.int .i64 t.funs[j].2.2.kind) ∧ w'.cell? ⟨b, o + j * 10 + 3, none⟩ = some (.int .i64 t.funs[j].2.2.x) ∧ w'.cell? ⟨b, o + j * 10 + 4, none⟩ = some (.int .i64 t.funs[j].2.2.n) ∧ w'.cell? ⟨b, o + j * 10 + 5, none⟩ = some (.bool t.funs[j].2.2.ints) ∧ w'.cell? ⟨b, o + j * 10 + 6, none⟩ = some (.slice tb' t.funs[j].2.2.tags.length tc') ∧ w'.cell? ⟨b, o + j * 10 + 7, none⟩ = some (.slice ab' t.funs[j].2.2.args.length ac') ∧ w'.cell? ⟨b, o + j * 10 + 8, none⟩ = some (.slice fb' t.funs[j].2.2.funs.length fc') ∧ w'.cell? ⟨b, o + j * 10 + 9, none⟩ = some (.slice nb' t.funs[j].2.2.next.length nc')) := Lib.hid (fun w' hk => by
          have hown := fun k (hk : (Value.slice va j vc).ownBlock = some k) => hO.out.lt k hk
          have n0 : w.heap.size ∉ (Value.slice va j vc).ownBlock.toList := fun h => by have := (hown _ (by simpa using h)).1; omega
          have hbw : b < w.heap.size := World.block_lt_of_cell? w ⟨b, o + j * 10, none⟩ ((hcell _ HM.out).1)
          have nb0 : b ∉ (Value.slice va j vc).ownBlock.toList := fun h => by have := (hown _ (by simpa using h)).1; omega
          exact ⟨hk.cell c6 n0, hk.cell x0 nb0, hk.cell x1 nb0, hk.cell e0 nb0, hk.cell y1 nb0, hk.cell y2 nb0, hk.cell y3 nb0, hk.cell y4 nb0, hk.cell y5 nb0, hk.cell y6 nb0, hk.cell y7 nb0⟩)
        have HMm := Lib.hid hm
        clear hcell hrt hpp hm e1 e2 e3 e4 e5 e6 e7 hfew
        go_wp2_with fail
        go_region_held3 (fun w' => w'.cell? ⟨w.heap.size, 6, none⟩ = some (.slice (some ⟨b, o, none⟩) t.funs.length fcap) ∧ w'.cell? ⟨b, o + j * 10, none⟩ = some (.int .i64 t.funs[j].1) ∧ w'.cell? ⟨b, o + j * 10 + 1, none⟩ = some (.slice pb' t.funs[j].2.1.length pc) ∧ w'.cell? ⟨b, o + j * 10 + 2, none⟩ = some (.int .i64 t.funs[j].2.2.kind) ∧ w'.cell? ⟨b, o + j * 10 + 3, none⟩ = some (.int .i64 t.funs[j].2.2.x) ∧ w'.cell? ⟨b, o + j * 10 + 4, none⟩ = some (.int .i64 t.funs[j].2.2.n) ∧ w'.cell? ⟨b, o + j * 10 + 5, none⟩ = some (.bool t.funs[j].2.2.ints) ∧ w'.cell? ⟨b, o + j * 10 + 6, none⟩ = some (.slice tb' t.funs[j].2.2.tags.length tc') ∧ w'.cell? ⟨b, o + j * 10 + 7, none⟩ = some (.slice ab' t.funs[j].2.2.args.length ac') ∧ w'.cell? ⟨b, o + j * 10 + 8, none⟩ = some (.slice fb' t.funs[j].2.2.funs.length fc') ∧ w'.cell? ⟨b, o + j * 10 + 9, none⟩ = some (.slice nb' t.funs[j].2.2.next.length nc')) (go_keep)
          (first | (refine step_append0 rfl (.tmp 31) (.tmp 37) rfl Try.underlying30 hi1 hz1 hs1 hy1 rfl (by decide) (g := wr.heap.size) (base := wr.heap.size) rfl (by exact heap_alloc_new _ _) (Nat.le_refl _) rfl (by simp) (src_ints HPP.out (HMm.out.later (below_box _ _).drew)) (intsCells_one _) (by unfold maxLen; omega) (by omega) (by simp) ?_; intro v' w4 hown4 hb4; obtain ⟨pa, pcp, rfl⟩ := ownsRow_slice hown4; obtain ⟨q6, r0, r1, r2, r3, r4, r5, r6, r7, r8, r9⟩ := HQ.out w4 (Kept.below (bgo (below_box _ _).drew hb4))) | (go_at_call 16; refine (hCP.out _ (bgo (below_box _ _).drew hb4)).mono ?_; rintro e w5 ⟨c5, rfl, hb5, hr5⟩; obtain ⟨tb5, tc5, ab5, ac5, fb5, fc5, nb5, nc5, rfl⟩ := hr5.shape; obtain ⟨q6, r0, r1, r2, r3, r4, r5, r6, r7, r8, r9⟩ := HQ.out w5 (Kept.below (bgo (bgo (below_box _ _).drew hb4) hb5))) | (refine step_appendS rfl (.tmp 24) (.tmp 47) rfl Try.underlying22 hi3 hz3 hs3 hy3 rfl (by decide) (v := .slice va j vc) rfl ((ownsRow_below hO.out (bgo (bgo (below_box _ _).drew hb4) hb5)).alloc _) (m := 1) (news := [.int .i64 t.funs[j].1, .slice pa t.funs[j].2.1.length pcp, .int .i64 t.funs[j].2.2.kind, .int .i64 t.funs[j].2.2.x, .int .i64 t.funs[j].2.2.n, .bool t.funs[j].2.2.ints, .slice tb5 t.funs[j].2.2.tags.length tc5, .slice ab5 t.funs[j].2.2.args.length ac5, .slice fb5 t.funs[j].2.2.funs.length fc5, .slice nb5 t.funs[j].2.2.next.length nc5]) rfl rfl (src_new _ _ _ _ _) (by simp [Value.oneCell']) (by unfold maxLen; omega) (by omega) (by have := hS.out.size; have := hb4.size; have := hb5.size; simp at *; omega) ?_; intro v' w6 hp; obtain ⟨va6, vc6, rfl⟩ := ownsRow_slice hp.own; obtain ⟨q6, r0, r1, r2, r3, r4, r5, r6, r7, r8, r9⟩ := HQ.out w6 (((Kept.below (bgo (bgo (below_box _ _).drew hb4) hb5)).trans (Kept.below (below_box w5 _))).trans hp.kept0)))
        have hown := fun k (hk : (Value.slice va j vc).ownBlock = some k) => hO.out.lt k hk
        have hB4 : Below wr.heap.size wr w4 := bgo (below_box _ _).drew hb4
        have hB5 : Below w4.heap.size w4 (w5.alloc (.cells [.int .i64 t.funs[j].1, .slice pa t.funs[j].2.1.length pcp, .int .i64 t.funs[j].2.2.kind, .int .i64 t.funs[j].2.2.x, .int .i64 t.funs[j].2.2.n, .bool t.funs[j].2.2.ints, .slice tb5 t.funs[j].2.2.tags.length tc5, .slice ab5 t.funs[j].2.2.args.length ac5, .slice fb5 t.funs[j].2.2.funs.length fc5, .slice nb5 t.funs[j].2.2.next.length nc5].toArray 42)) := bgo hb5 (below_box _ _)
        have hS6 : ∀ k ∈ (Value.slice va6 (j + 1) vc6).ownBlock.toList, k ∈ (Value.slice va j vc).ownBlock.toList ∨ (w5.alloc (.cells [.int .i64 t.funs[j].1, .slice pa t.funs[j].2.1.length pcp, .int .i64 t.funs[j].2.2.kind, .int .i64 t.funs[j].2.2.x, .int .i64 t.funs[j].2.2.n, .bool t.funs[j].2.2.ints, .slice tb5 t.funs[j].2.2.tags.length tc5, .slice ab5 t.funs[j].2.2.args.length ac5, .slice fb5 t.funs[j].2.2.funs.length fc5, .slice nb5 t.funs[j].2.2.next.length nc5].toArray 42)).heap.size ≤ k := fun k hk => by
          rcases hp.new k (by simpa using hk) with h | h
          · exact .inl (by simpa using h)
          · exact .inr h
        have hK6 : Kept (Value.slice va j vc).ownBlock.toList wr w6 := (Kept.below (bgo hB4 hB5)).trans hp.kept0
        have hSlt : ∀ k ∈ (Value.slice va j vc).ownBlock.toList, k < wr.heap.size := fun k hk => (hown k (by simpa using hk)).2
        have hsz5 := (bgo hB4 hB5).size
        have hn2 : w.heap.size + 2 ≤ wr.heap.size := by have := hS.out.size; omega
        have hxl : xs.length = j * 10 := hO.out.1
        have HST6 := Lib.hid (hS.out.go hK6 (fun k hk => (hown k (by simpa using hk)).1) (fun k hk => (hS6 k hk).imp id (fun h => by omega)))
        have HO6 := Lib.hid hp.own
        have HR6 := Lib.hid (fun i (hi : i < j + 1) (hi' : i < t.funs.length) => (show FunRow (newS (w.heap.size + 2) (Value.slice va6 (j + 1) vc6).ownBlock.toList w6) (xs ++ [.int .i64 t.funs[j].1, .slice pa t.funs[j].2.1.length pcp, .int .i64 t.funs[j].2.2.kind, .int .i64 t.funs[j].2.2.x, .int .i64 t.funs[j].2.2.n, .bool t.funs[j].2.2.ints, .slice tb5 t.funs[j].2.2.tags.length tc5, .slice ab5 t.funs[j].2.2.args.length ac5, .slice fb5 t.funs[j].2.2.funs.length fc5, .slice nb5 t.funs[j].2.2.next.length nc5]) i t.funs[i] from by
          by_cases hij : i < j
          · exact (hR.out i hij hi').mono (newS_sub hK6 (fun k hk => (hS6 k hk).imp id (fun h => by omega))) (append_at _ _)
          · obtain rfl : i = j := by omega
            refine ⟨.slice pa t.funs[i].2.1.length pcp, [.int .i64 t.funs[i].2.2.kind, .int .i64 t.funs[i].2.2.x, .int .i64 t.funs[i].2.2.n, .bool t.funs[i].2.2.ints, .slice tb5 t.funs[i].2.2.tags.length tc5, .slice ab5 t.funs[i].2.2.args.length ac5, .slice fb5 t.funs[i].2.2.funs.length fc5, .slice nb5 t.funs[i].2.2.next.length nc5], rfl, fun k v hk => append_at2 _ _ _ hxl k v hk, ?_, ?_⟩
            · exact RInts.mono (newM_to hn2 ((Kept.below hB5).trans hp.kept0) hSlt (fun k hk => (hS6 k hk).imp id (fun h => by have := hB5.size; omega))) (rints_of hown4 HPP.out.2 (by omega) (Nat.le_refl _))
            · exact hr5.mono (newM_to (by have := hB4.size; omega) ((Kept.below (below_box w5 _)).trans hp.kept0) (fun k hk => Nat.lt_of_lt_of_le (hSlt k hk) hB4.size) (fun k hk => (hS6 k hk).imp id (fun h => by simp at h; omega)))))
        go_wp2_with fail
        go_roundg (t.funs.length - (j + 1))
        case measure => omega
        case rel => exact ⟨j + 1, _, _, by omega, rfl, by go_num, HST6, HO6, HR6⟩
      · have hjl : j = t.funs.length := by omega
        subst hjl
        have HS0 := Lib.hid (hS.out.go (S' := []) (Kept.refl _ _) (fun k hk => (hO.out.lt k (by simpa using hk)).1) (by simp))
        have HR0 := Lib.hid (fun i (hi : i < t.funs.length) => (hR.out i hi hi).mono (newS_sub (S' := []) (Kept.refl _ _) (by simp)) (xs' := xs) (fun _ _ h => h))
        go_wp2_with fail
        obtain ⟨wo, hwo⟩ : ∃ wo : World, wo = wr := ⟨_, rfl⟩
        subst hwo
        go_loopg [5, 6] (t.next.length) (fun g x5 x6 wq => ∃ (q : Nat) (v : Value) (ys : List Value), q + g = t.next.length ∧ x5 = v ∧ x6 = .int .i64 q ∧ Hid (CpSt w t fb fcap nb ncap (.slice a3 t.tags.length c3) (.slice a7 t.args.length c7) wq v.ownBlock.toList) ∧ Hid (wq.ownsRow (w.heap.size + 2) 42 10 (.slice va t.funs.length vc) t.funs.length xs) ∧ (∀ k, v.ownBlock = some k → wo.heap.size ≤ k) ∧
          Hid (∀ i, ∀ hi : i < t.funs.length, FunRow (newS (w.heap.size + 2) v.ownBlock.toList wq) xs i t.funs[i]) ∧ Hid (wq.ownsRow (w.heap.size + 2) 34 8 v q ys) ∧ Hid (∀ i, i < q → ∀ hi : i < t.next.length, TermRow (newS (w.heap.size + 2) v.ownBlock.toList wq) ys i t.next[i]) ∧ wo.heap.size ≤ wq.heap.size)
        case atStart => exact ⟨0, _, [], by omega, rfl, rfl, HS0, hO, by simp [Value.ownBlock], HR0, Lib.hid (World.ownsRow_nil _ _ _ _), Lib.hid (fun i h => by omega), Nat.le_refl _⟩
        case round =>
          obtain ⟨q, v, ys, hq, rfl, rfl, hS2, hOf, hvn, hRf, hO2, hR2, hszq⟩ := hrel
          obtain ⟨va2, vc2, rfl⟩ := ownsRow_slice hO2.out
          have d7 := hS2.out.box 7 _ rfl
          by_cases hlt2 : q < t.next.length
          · obtain ⟨b, o, tb', tc', ab', ac', fb', fc', nb', nc', rfl, hrt, hcell⟩ := HO.out.nextAt q hlt2
            have hm := HM.out.later hS2.out.bel
            obtain ⟨e0, e1, e2, e3, e4, e5, e6, e7⟩ := hcell _ hm
            have hfew := HSM.out
            have hCP := Lib.hid (fun (wx : World) (hb : Below wr.heap.size wr wx) => HIN.out t.next[q] (List.getElem_mem hlt2) (by cases hfew; rename_i hf; exact hf _ (List.getElem_mem hlt2)) m _ hrt wx (hm.later hb))
            have hnl : t.next.length ≤ 2097152 := by cases hfew; assumption
            clear hcell hrt hm hfew
            go_wp2_with (first | (go_at_call 16; refine (hCP.out _ (Below.refl _ _)).mono ?_; rintro e w5 ⟨c5, rfl, hb5, hr5⟩; obtain ⟨tb5, tc5, ab5, ac5, fb5, fc5, nb5, nc5, rfl⟩ := hr5.shape) | (at_builtin; refine wpList_appendS rfl (.tmp 56) (.tmp 63) rfl Try.underlying32 hi4 hz4 hs4 hy4 rfl (by decide) (v := .slice va2 q vc2) rfl ((ownsRow_below hO2.out hb5).alloc _) (m := 1) (news := [.int .i64 t.next[q].kind, .int .i64 t.next[q].x, .int .i64 t.next[q].n, .bool t.next[q].ints, .slice tb5 t.next[q].tags.length tc5, .slice ab5 t.next[q].args.length ac5, .slice fb5 t.next[q].funs.length fc5, .slice nb5 t.next[q].next.length nc5]) rfl rfl (src_new _ _ _ _ _) (by simp [Value.oneCell']) (by unfold maxLen; omega) (by omega) (by have := hS2.out.size; have := hb5.size; simp; omega) ?_; intro v' w6 hp; obtain ⟨va6, vc6, rfl⟩ := ownsRow_slice hp.own))
            have hown := fun k (hk : (Value.slice va2 q vc2).ownBlock = some k) => hO2.out.lt k hk
            have hB5 : Below wr.heap.size wr (w5.alloc (.cells [.int .i64 t.next[q].kind, .int .i64 t.next[q].x, .int .i64 t.next[q].n, .bool t.next[q].ints, .slice tb5 t.next[q].tags.length tc5, .slice ab5 t.next[q].args.length ac5, .slice fb5 t.next[q].funs.length fc5, .slice nb5 t.next[q].next.length nc5].toArray 34)) := bgo hb5 (below_box _ _)
            have hS6 : ∀ k ∈ (Value.slice va6 (q + 1) vc6).ownBlock.toList, k ∈ (Value.slice va2 q vc2).ownBlock.toList ∨ (w5.alloc (.cells [.int .i64 t.next[q].kind, .int .i64 t.next[q].x, .int .i64 t.next[q].n, .bool t.next[q].ints, .slice tb5 t.next[q].tags.length tc5, .slice ab5 t.next[q].args.length ac5, .slice fb5 t.next[q].funs.length fc5, .slice nb5 t.next[q].next.length nc5].toArray 34)).heap.size ≤ k := fun k hk => by
              rcases hp.new k (by simpa using hk) with h | h
              · exact .inl (by simpa using h)
              · exact .inr h
            have hK6 : Kept (Value.slice va2 q vc2).ownBlock.toList wr w6 := (Kept.below hB5).trans hp.kept0
            have hSlt : ∀ k ∈ (Value.slice va2 q vc2).ownBlock.toList, k < wr.heap.size := fun k hk => (hown k (by simpa using hk)).2
            have hsz5 := hB5.size
            have hn2 : w.heap.size + 2 ≤ wr.heap.size := by have := hS2.out.size; omega
            have hxl : ys.length = q * 8 := hO2.out.1
            have hst6 : ∀ k ∈ (Value.slice va6 (q + 1) vc6).ownBlock.toList, k ∈ (Value.slice va2 q vc2).ownBlock.toList ∨ wr.heap.size ≤ k := fun k hk => (hS6 k hk).imp id (fun h => by omega)
            have HST6 := Lib.hid (hS2.out.go hK6 (fun k hk => (hown k (by simpa using hk)).1) hst6)
            have HOf6 : Hid (w6.ownsRow (w.heap.size + 2) 42 10 (.slice va t.funs.length vc) t.funs.length xs) := Lib.hid (by
              have h1 := ownsRow_below hOf.out hB5
              refine h1.kept hp.gr ?_
              cases hv : (Value.slice va t.funs.length vc).ownBlock with
              | none => simp
              | some g =>
                have h2 := (hO.out.lt g hv).2
                cases hv2 : (Value.slice va2 q vc2).ownBlock with
                | none => simp
                | some g2 => have := hvn g2 hv2; simp; omega)
            have HO6 := Lib.hid hp.own
            have HRf6 := Lib.hid (fun i (hi : i < t.funs.length) => (hRf.out i hi).mono (newS_sub hK6 hst6) (xs' := xs) (fun _ _ h => h))
            have HR6 := Lib.hid (fun i (hi : i < q + 1) (hi' : i < t.next.length) => (show TermRow (newS (w.heap.size + 2) (Value.slice va6 (q + 1) vc6).ownBlock.toList w6) (ys ++ [.int .i64 t.next[q].kind, .int .i64 t.next[q].x, .int .i64 t.next[q].n, .bool t.next[q].ints, .slice tb5 t.next[q].tags.length tc5, .slice ab5 t.next[q].args.length ac5, .slice fb5 t.next[q].funs.length fc5, .slice nb5 t.next[q].next.length nc5]) i t.next[i] from by
              by_cases hij : i < q
              · exact (hR2.out i hij hi').mono (newS_sub hK6 hst6) (append_at _ _)
              · obtain rfl : i = q := by omega
                refine ⟨[.int .i64 t.next[i].kind, .int .i64 t.next[i].x, .int .i64 t.next[i].n, .bool t.next[i].ints, .slice tb5 t.next[i].tags.length tc5, .slice ab5 t.next[i].args.length ac5, .slice fb5 t.next[i].funs.length fc5, .slice nb5 t.next[i].next.length nc5], rfl, fun k v hk => append_at2 _ _ _ hxl k v hk, ?_⟩
                exact hr5.mono (newM_to hn2 ((Kept.below (below_box w5 _)).trans hp.kept0) hSlt (fun k hk => (hS6 k hk).imp id (fun h => by simp at h; omega)))))
            have hvn6 : ∀ k, (Value.slice va6 (q + 1) vc6).ownBlock = some k → wo.heap.size ≤ k := fun k hk => by
              rcases hp.new k hk with h | h
              · exact hvn k h
              · omega
            go_roundg (t.next.length - (q + 1))
            case measure => omega
            case rel => exact ⟨q + 1, _, _, by omega, rfl, by go_num, HST6, HOf6, hvn6, HRf6, HO6, HR6, by have := hp.gr.size; omega⟩
          · have hjl : q = t.next.length := by omega
            subst hjl
            have d0 := hS2.out.box 0 _ rfl
            have d1 := hS2.out.box 1 _ rfl
            have d2 := hS2.out.box 2 _ rfl
            have d3 := hS2.out.box 3 _ rfl
            have d4 := hS2.out.box 4 _ rfl
            have d5 := hS2.out.box 5 _ rfl
            have d6 := hS2.out.box 6 _ rfl
            have bz := hS2.out.bz
            have r0 := hS2.out.res 0 _ rfl
            have r1 := hS2.out.res 1 _ rfl
            have r2 := hS2.out.res 2 _ rfl
            have r3 := hS2.out.res 3 _ rfl
            have r4 := hS2.out.res 4 _ rfl
            have r5 := hS2.out.res 5 _ rfl
            have r6 := hS2.out.res 6 _ rfl
            have r7 := hS2.out.res 7 _ rfl
            have rz := hS2.out.rz
            clear HIF HIN HSM HBX HST hS hR HS0 HR0
            go_wp2_with fail
            refine bodyPost_ret (v := .agg #[.int .i64 t.kind, .int .i64 t.x, .int .i64 t.n, .bool t.ints, .slice a3 t.tags.length c3, .slice a7 t.args.length c7, .slice va t.funs.length vc, .slice va2 t.next.length vc2]) (by simp [results, Try.results16, go_sem, r0, r1, r2, r3, r4, r5, r6, r7, rz]) rfl ?_
            have hkk : Kept [w.heap.size, w.heap.size + 1] wr _ := ((((((((((kept_setCell (b := w.heap.size) (by simp) wr 6 (.slice va t.funs.length vc)).trans (kept_setCell (b := w.heap.size) (by simp) _ 7 (.slice va2 t.next.length vc2))).trans (kept_setCell (b := w.heap.size + 1) (by simp) _ 0 (.int .i64 t.kind))).trans (kept_setCell (b := w.heap.size + 1) (by simp) _ 1 (.int .i64 t.x))).trans (kept_setCell (b := w.heap.size + 1) (by simp) _ 2 (.int .i64 t.n))).trans (kept_setCell (b := w.heap.size + 1) (by simp) _ 3 (.bool t.ints))).trans (kept_setCell (b := w.heap.size + 1) (by simp) _ 4 (.slice a3 t.tags.length c3))).trans (kept_setCell (b := w.heap.size + 1) (by simp) _ 5 (.slice a7 t.args.length c7))).trans (kept_setCell (b := w.heap.size + 1) (by simp) _ 6 (.slice va t.funs.length vc))).trans (kept_setCell (b := w.heap.size + 1) (by simp) _ 7 (.slice va2 t.next.length vc2)))
            have hbel := hS2.out.bel
            have hsub : ∀ a v, newS (w.heap.size + 2) (Value.slice va2 t.next.length vc2).ownBlock.toList wr a = some v → newM w _ a = some v := fun a v ha => by
              unfold newS at ha
              split at ha
              · cases ha
              · rename_i hn
                have hn' : ¬ a.block < w.heap.size + 2 := fun h => hn (.inl h)
                exact newM_of (hkk.cell ha (by simp; omega)) (by omega)
            have hown : ∀ {ty sz n xs v}, wr.ownsRow (w.heap.size + 2) ty sz v n xs → ∀ g o u, v.ownBlock = some g → wr.cell? ⟨g, o, none⟩ = some u → newM w _ ⟨g, o, none⟩ = some u := fun h g o u hg hc => by
              have := (h.lt g hg).1
              exact newM_of (hkk.cell hc (by simp; omega)) (by show w.heap.size ≤ g; omega)
            refine ⟨_, rfl, hbel.trans (hkk.toBelow hbel.size (by simp)), rterm_make HO.out.ik HO.out.ix HO.out.inn (RInts.mono hsub hS2.out.tags) (RAtoms.mono hsub hS2.out.args) hOf.out hO2.out fbd nbd (hown hOf.out) (hown hO2.out) (fun i hi => (hRf.out i hi).mono hsub (fun _ _ h => h)) (fun i hi => (hR2.out i hi hi).mono hsub (fun _ _ h => h)) (fun i hi => ?_)⟩
            obtain ⟨_, _, _, _, _, _, _, _, _, _, _, _, _, h, _⟩ := HO.out.funsAt i hi
            exact h
theorem copy_any (t : Term) : CopySpec t := Term.ind copy_step t
end Go.Proofs.Ytimljadlfhccpaa
namespace Go.Proofs.Ytimljadlfhccpaa
open Go.RowKit
set_option maxHeartbeats 4000000

theorem RFuns.termK {m : Mp} {v : Value} {funs} (h : RFuns m v funs) :
    RTerm m [.int .i64 4, .int .i64 0, .int .i64 0, .bool false, .slice none 0 0, .slice none 0 0, v, .slice none 0 0] (Term.mk 4 0 0 false [] [] funs []) := by
  obtain ⟨cf, cb, vp, h1, h2, h3⟩ := h.ex
  exact .mk 4 0 0 false [] [] funs [] _ _ _ _ cf (fun _ => []) cb vp ⟨by omega, by omega⟩ ⟨by omega, by omega⟩ ⟨by omega, by omega⟩ (RInts.nil m) ⟨⟨none, 0, rfl, by simp, by simp, by simp⟩, by simp⟩ h1 ⟨none, 0, rfl, by simp, by simp, by simp⟩ h2 h3 (by simp)
/-- A flat program's lists are all of at most so many. -/
def FewF (B : Nat) (f : Flat) : Prop := f.funs.length ≤ B ∧ (∀ g ∈ f.funs, g.2.1.length ≤ B) ∧ ∀ g ∈ f.funs, Few B g.2.2
def CopyFPost (w : World) (f : Flat) (e : Ending) (w' : World) : Prop := ∃ v : Value, e = .returned (.agg #[v, .int .i64 f.main]) ∧ Below w.heap.size w w' ∧ RFlat (newM w w') v f
theorem newM_trans {w w1 w' : World} (h : w.heap.size ≤ w1.heap.size) (hb : Below w1.heap.size w1 w') : ∀ a v, newM w w1 a = some v → newM w w' a = some v := by
  intro a v ha
  unfold newM at ha
  split at ha
  · cases ha
  · exact newM_of ((hb.cell (World.block_lt_of_cell? w1 a ha)).trans ha) (by omega)
theorem newM_mono {w0 w w' : World} (h : w0.heap.size ≤ w.heap.size) : ∀ a v, newM w w' a = some v → newM w0 w' a = some v := by
  intro a v ha
  unfold newM at ha
  split at ha
  · cases ha
  · exact newM_of ha (by omega)
theorem RFuns.mono {m m' : Mp} (h : ∀ a v, m a = some v → m' a = some v) {v : Value} {l} (hr : RFuns m v l) : RFuns m' v l := by
  have := (hr.term.mono h)
  exact RFuns.of this
set_option maxRecDepth 100000 in
theorem copyF {m : Mp} {v : Value} {f : Flat} (hr : RFlat m v f) (hs : FewF 2097152 f) (w : World) (hm : Ag m w) : Calls Try.prog 7 #[.agg #[v, .int .i64 f.main]] w (CopyFPost w f) := by
  have hC := Lib.hid (fun (wx : World) (hb : Below w.heap.size w wx) => copy_any (Term.mk 4 0 0 false [] [] f.funs []) (by obtain ⟨h1, h2, h3⟩ := hs; exact .mk _ (by simp [Term.tags]) (by simp [Term.args]) h1 (by simp [Term.next]) h2 h3 (by simp [Term.next])) m _ hr.1.termK wx (hm.later hb))
  obtain ⟨fb, fc, rfl, _⟩ := hr.1.opn
  have hM := Lib.hid hr.2
  clear hr hm hs
  go_enter Try.func7, Try.ntmps7
  go_wp2_with (go_at_call 16; refine (hC.out _ (bgo (below_box _ _) (below_box _ _))).mono ?_; rintro e w1 ⟨c, rfl, hb1, hr1⟩; obtain ⟨tb5, tc5, ab5, ac5, fb5, fc5, nb5, nc5, rfl⟩ := hr1.shape; obtain ⟨gb, gz⟩ := new_cells (cs := [.slice none 0 0, .int .i64 0]) hb1 (b := w.heap.size + 1) (by simp); have g0 := gb.2 0 _ rfl; have g1 := gb.2 1 _ rfl; have z0 := gz 0; have z1 := gz 1; have gs := gb.1; have gs0 : w.heap.size < w1.heap.size := (by omega); have gn0 : ¬ w.heap.size = w1.heap.size := (by omega); have gn1 : ¬ w.heap.size + 1 = w1.heap.size := (by omega); obtain ⟨kb, kz⟩ := new_cells (W := w) (t := 24) (cs := [.slice fb f.funs.length fc, .int .i64 f.main]) (bgo (below_box _ _) hb1) (b := w.heap.size) rfl; have k1 := kb.2 1 _ rfl; have HB1 := Lib.hid hb1; have HR1 := Lib.hid hr1; clear gb gz kb kz hb1 hr1)
  refine bodyPost_ret (v := .agg #[.slice fb5 f.funs.length fc5, .int .i64 f.main]) (by simp [results, Try.results7, go_sem, g0, g1, gs, gn0, gn1, Term.funs]) rfl ?_
  have hk1 : Kept [w.heap.size + 1] w1 ((w1.setCell ⟨w.heap.size + 1, 0, none⟩ (.slice fb5 f.funs.length fc5)).setCell ⟨w.heap.size + 1, 1, none⟩ (.int .i64 f.main)) := (kept_setCell (by simp) w1 0 _).trans (kept_setCell (by simp) _ 1 _)
  have hkk := hk1.trans (Kept.below (below_box _ (.cells #[.int .i64 4, .int .i64 0, .int .i64 0, .bool false, .slice tb5 0 tc5, .slice ab5 0 ac5, .slice fb5 f.funs.length fc5, .slice nb5 0 nc5] 34)))
  have hbel : Below w.heap.size w w1 := bgo (bgo (below_box _ _) (below_box _ _)) HB1.out
  have hsub : ∀ a v, newM ((w.alloc (.cells #[.slice fb f.funs.length fc, .int .i64 f.main] 24)).alloc (.cells #[.slice none 0 0, .int .i64 0] 24)) w1 a = some v → newM w _ a = some v := fun a v ha => by
    unfold newM at ha
    split at ha
    · cases ha
    · rename_i hn
      simp at hn
      exact newM_of (hkk.cell ha (by simp; omega)) (by omega)
  exact ⟨_, rfl, hbel.trans (hkk.toBelow hbel.size (by simp)), RFuns.of (HR1.out.mono hsub), hM.out⟩
end Go.Proofs.Ytimljadlfhccpaa
