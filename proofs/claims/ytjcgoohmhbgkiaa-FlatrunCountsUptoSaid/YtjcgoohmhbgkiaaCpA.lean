/- Copies of terms: appends of whole lists; memory that is new. -/
import Derived.Test.YtjcgoohmhbgkiaaProg
import Derived.Test.YtjcgoohmhbgkiaaMA
import Derived.Test.YtjcgoohmhbgkiaaPush
import Derived.Test.YtjcgoohmhbgkiaaFlV
import Derived.Deep.DeepCutAuto
set_option linter.all false
set_option linter.all false
namespace Go.Proofs.Ytjcgoohmhbgkiaa
open Go.RowKit
set_option maxHeartbeats 4000000

theorem infoA : (Try.prog.info? 52).map (fun i => (i.zero, i.size, i.bytes)) = some (some (.agg #[.bool false, .int .i64 0]), 2, 16) := by kernel_rfl
/-- Some elements more, of any size. -/
structure PushedN (base : Nat) (e : TypeId) (size : Nat) (w w' : World) (v v' : Value) (n : Nat) (xs : List Value) : Prop where
  own : w'.ownsRow base e size v' n xs
  gr : w.grownBy w' v.ownBlock
  new : ∀ k, v'.ownBlock = some k → v.ownBlock = some k ∨ w.heap.size ≤ k
theorem run_appendN {P : Program} {w : World} {base : Nat} {t ty e : TypeId} {i : TypeInfo} {z : Value} {size bytes : Nat} (ht : P.underlying t = some (.slice e)) (hi : P.info? e = some i) (hz : i.zero = some z)
    (hsize : i.size = size) (hby : i.bytes = bytes) (hzs : z.cells.size = size) (hsz : 0 < size) {v : Value} {n : Nat} {xs : List Value} (hown : w.ownsRow base e size v n xs)
    {a : Addr} {m c : Nat} {news : List Value} (hl : news.length = m * size) (hnews : ∀ j u, news[j]? = some u → w.cell? (a.add j) = some u) (h1 : ∀ u ∈ news, u.oneCell' = true)
    (h63 : n + m ≤ maxLen) (hbytes : (n + m) * bytes ≤ 140737488355328) (hbase : base ≤ w.heap.size) :
    ∃ v' w', (Builtin.append_ #[t, t] ty #[v, .slice (some a) m c]).run P w = .ok v' w' ∧ PushedN base e size w w' v v' (n + m) (xs ++ news) := by
  rcases hown.2 with ⟨rfl, rfl⟩ | ⟨g, cap, cur, rfl, hg, hh, hnc, hcm, hszc, htk⟩
  · have hx0 : xs = [] := List.eq_nil_of_length_eq_zero (by simpa using hown.1)
    subst hx0
    obtain ⟨v', w', hr, h2, h3, _⟩ := run_append_own (P := P) w w.heap.size t ty e i z size bytes ht hi hz hsize hby hzs hsz (.slice none 0 0) 0 [] (World.ownsRow_nil w _ e size) a m c news hl hnews h1 h63 hbytes (Nat.le_refl _)
    exact ⟨v', w', hr, ownsRow_base h2 hbase, h3, fun k hk => .inr (h2.lt k hk).1⟩
  · by_cases hfit : n + m ≤ cap
    · obtain ⟨w', hr, h2, h3⟩ := run_append_fits (P := P) w base t ty e i size ht hi hsize g n cap xs hown a m c news hl hnews h1 hfit
      exact ⟨_, w', hr, h2, h3, fun k hk => .inl hk⟩
    · obtain ⟨v', w', hr, h2, h3⟩ := run_append_arg_grows (P := P) w t ty e i z size bytes ht hi hz hsize hby hzs hsz ⟨g, 0, none⟩ n cap xs (by simpa using hown.1) (fun j u hj => hown.cells rfl j u hj) a m c news hl hnews (by omega) h63 hbytes
      exact ⟨v', w', hr, ownsRow_base h2 hbase, grownBy_none h3 _, fun k hk => .inr (h2.lt k hk).1⟩
/-- A slice that is appended: n elements, whose cells are these. -/
def SrcAt (w : World) (sv : Value) (n : Nat) (news : List Value) : Prop := (∃ a c, sv = .slice (some a) n c ∧ ∀ j u, news[j]? = some u → w.cell? (a.add j) = some u) ∨ (∃ c, sv = .slice none 0 c ∧ n = 0 ∧ news = [])
theorem run_append_nil {P : Program} {w : World} {base : Nat} {t ty e : TypeId} {i : TypeInfo} {size : Nat} (ht : P.underlying t = some (.slice e)) (hi : P.info? e = some i) {v : Value} {n : Nat} {xs : List Value} (hown : w.ownsRow base e size v n xs) (c : Nat) :
    (Builtin.append_ #[t, t] ty #[v, .slice none 0 c]).run P w = .ok v w := by
  rcases hown.2 with ⟨rfl, _⟩ | ⟨g, cap, cur, rfl, _, _, h, _⟩
  · simp [Builtin.append_, run_underlying ht, sizeOf, typeInfo, hi, Builtin.lenOf, Builtin.firstCells]
  · simp [Builtin.append_, run_underlying ht, sizeOf, typeInfo, hi, Builtin.lenOf, Builtin.firstCells, h, storeCells]
theorem run_appendS {P : Program} {w : World} {base : Nat} {t ty e : TypeId} {i : TypeInfo} {z : Value} {size bytes : Nat} (ht : P.underlying t = some (.slice e)) (hi : P.info? e = some i) (hz : i.zero = some z)
    (hsize : i.size = size) (hby : i.bytes = bytes) (hzs : z.cells.size = size) (hsz : 0 < size) {v : Value} {n : Nat} {xs : List Value} (hown : w.ownsRow base e size v n xs)
    {sv : Value} {m : Nat} {news : List Value} (hl : news.length = m * size) (hnews : SrcAt w sv m news) (h1 : ∀ u ∈ news, u.oneCell' = true)
    (h63 : n + m ≤ maxLen) (hbytes : (n + m) * bytes ≤ 140737488355328) (hbase : base ≤ w.heap.size) :
    ∃ v' w', (Builtin.append_ #[t, t] ty #[v, sv]).run P w = .ok v' w' ∧ PushedN base e size w w' v v' (n + m) (xs ++ news) := by
  rcases hnews with ⟨a, c, rfl, hc⟩ | ⟨c, rfl, rfl, rfl⟩
  · exact run_appendN ht hi hz hsize hby hzs hsz hown hl hc h1 h63 hbytes hbase
  · exact ⟨v, w, run_append_nil ht hi hown c, by simpa using hown, World.grownBy.refl w _, fun k h => .inl h⟩
theorem wp_appendS {P : Program} {w : World} {o : Oper} {act : Act} {K : Act → World → Prop} {Q : Exit → Act → World → Prop}
    (s x : Operand) {t e : TypeId} (hop : o.op = Op.call { callee := Callee.builtin Builtin.append, args := #[s, x], argTypes := #[t, t] })
    {base : Nat} {i : TypeInfo} {z : Value} {size bytes : Nat} (ht : P.underlying t = some (.slice e)) (hi : P.info? e = some i) (hz : i.zero = some z)
    (hsize : i.size = size) (hby : i.bytes = bytes) (hzs : z.cells.size = size) (hsz : 0 < size) {v : Value} {n : Nat} {xs : List Value} (hs : act.eval s = v) (hown : w.ownsRow base e size v n xs)
    {sv : Value} {m : Nat} {news : List Value} (hx : act.eval x = sv) (hl : news.length = m * size) (hnews : SrcAt w sv m news) (h1 : ∀ u ∈ news, u.oneCell' = true) (h63 : n + m ≤ maxLen) (hbytes : (n + m) * bytes ≤ 140737488355328) (hbase : base ≤ w.heap.size)
    (hK : ∀ v' w', PushedN base e size w w' v v' (n + m) (xs ++ news) → K (act.put o.dst v') w') : Oper.wp P o act w K Q := by
  obtain ⟨v', w', hrun, r⟩ := run_appendS (P := P) (ty := o.type) ht hi hz hsize hby hzs hsz hown hl hnews h1 h63 hbytes hbase
  unfold Oper.wp
  simp [execOp, hop, resolve, invoke, builtin, hs, hx, hrun, Result.andThen]
  exact hK _ _ r
theorem step_appendS {P : Program} {w : World} {ops : Array Oper} {o : Oper} {act : Act} {K : Act → World → Prop} {Q : Exit → Act → World → Prop} {E : Prop} (hg : o.guard = none)
    (s x : Operand) {t e : TypeId} (hop : o.op = Op.call { callee := Callee.builtin Builtin.append, args := #[s, x], argTypes := #[t, t] })
    {base : Nat} {i : TypeInfo} {z : Value} {size bytes : Nat} (ht : P.underlying t = some (.slice e)) (hi : P.info? e = some i) (hz : i.zero = some z)
    (hsize : i.size = size) (hby : i.bytes = bytes) (hzs : z.cells.size = size) (hsz : 0 < size) {v : Value} {n : Nat} {xs : List Value} (hs : act.eval s = v) (hown : w.ownsRow base e size v n xs)
    {sv : Value} {m : Nat} {news : List Value} (hx : act.eval x = sv) (hl : news.length = m * size) (hnews : SrcAt w sv m news) (h1 : ∀ u ∈ news, u.oneCell' = true) (h63 : n + m ≤ maxLen) (hbytes : (n + m) * bytes ≤ 140737488355328) (hbase : base ≤ w.heap.size)
    (hK : ∀ v' w', PushedN base e size w w' v v' (n + m) (xs ++ news) → K (act.put o.dst v') w') : if Region.wanted o (yielded ops act.tmps) = true then Oper.wp P o act w K Q else E := by
  rw [if_pos (by simp [Region.wanted, hg])]
  exact wp_appendS s x hop ht hi hz hsize hby hzs hsz hs hown hx hl hnews h1 h63 hbytes hbase hK
theorem wpList_appendS {P : Program} {w : World} {ops : Array Oper} {rest : List Oper} {o : Oper} {act : Act} {Q : Exit → Act → World → Prop} (hg : o.guard = none)
    (s x : Operand) {t e : TypeId} (hop : o.op = Op.call { callee := Callee.builtin Builtin.append, args := #[s, x], argTypes := #[t, t] })
    {base : Nat} {i : TypeInfo} {z : Value} {size bytes : Nat} (ht : P.underlying t = some (.slice e)) (hi : P.info? e = some i) (hz : i.zero = some z)
    (hsize : i.size = size) (hby : i.bytes = bytes) (hzs : z.cells.size = size) (hsz : 0 < size) {v : Value} {n : Nat} {xs : List Value} (hs : act.eval s = v) (hown : w.ownsRow base e size v n xs)
    {sv : Value} {m : Nat} {news : List Value} (hx : act.eval x = sv) (hl : news.length = m * size) (hnews : SrcAt w sv m news) (h1 : ∀ u ∈ news, u.oneCell' = true) (h63 : n + m ≤ maxLen) (hbytes : (n + m) * bytes ≤ 140737488355328) (hbase : base ≤ w.heap.size)
    (hK : ∀ v' w', PushedN base e size w w' v v' (n + m) (xs ++ news) → wpList P ops Q rest (act.put o.dst v') w') : wpList P ops Q (o :: rest) act w :=
  wpList_plain hg fun K hK' => wp_appendS s x hop ht hi hz hsize hby hzs hsz hs hown hx hl hnews h1 h63 hbytes hbase (fun v' w' h => hK' _ _ (hK v' w' h))
theorem add_addr (b o j : Nat) : (⟨b, o, none⟩ : Addr).add j = ⟨b, o + j, none⟩ := by cases j <;> simp [Addr.add]
theorem src_ints {m : Mp} {v : Value} {l : List Int} (h : RInts m v l) {w : World} (hm : Ag m w) : SrcAt w v l.length (l.map (.int .i64)) := by
  obtain ⟨⟨base, cap, rfl, _, _, h3⟩, _⟩ := h
  by_cases h0 : 0 < l.length
  · obtain ⟨b, o, rfl, hc⟩ := h3 h0
    refine .inl ⟨_, cap, rfl, fun j u hj => ?_⟩
    have hjl : j < l.length := by
      have := (List.getElem?_eq_some_iff.1 hj).1; simpa using this
    rw [add_addr]
    have := hm _ _ ((hc j hjl).2 0 _ rfl)
    simp only [Nat.mul_one, Nat.add_zero] at this
    rw [this]
    simp [hjl] at hj
    simp [List.getD_eq_getElem?_getD, hjl, hj]
  · have hl : l = [] := List.eq_nil_of_length_eq_zero (by omega)
    subst hl
    cases base with
    | none => exact .inr ⟨cap, rfl, rfl, rfl⟩
    | some a => exact .inl ⟨a, cap, rfl, fun j u hj => by simp at hj⟩
def atomsCells (l : List Atm) : List Value := l.flatMap atomCells
theorem atomsCells_length (l : List Atm) : (atomsCells l).length = l.length * 2 := by
  induction l with
  | nil => rfl
  | cons a r ih => simp [atomsCells, atomCells] at ih ⊢; omega
theorem atomsCells_at : ∀ (l : List Atm) (i : Nat) (hi : i < l.length) (k : Nat), k < 2 → (atomsCells l)[i * 2 + k]? = (atomCells l[i])[k]?
  | [], i, hi, _, _ => by simp at hi
  | a :: r, 0, _, k, hk => by
    simp only [atomsCells, List.flatMap_cons, Nat.zero_mul, Nat.zero_add, List.getElem_cons_zero]
    rw [List.getElem?_append_left (by simp [atomCells]; omega)]
  | a :: r, i + 1, hi, k, hk => by
    have ih := atomsCells_at r i (by simpa using hi) k hk
    simp only [atomsCells, List.flatMap_cons, List.getElem_cons_succ] at ih ⊢
    rw [List.getElem?_append_right (by simp [atomCells]; omega), ← ih]
    congr 1
    simp [atomCells]; omega
theorem src_atoms {m : Mp} {v : Value} {l : List Atm} (h : RAtoms m v l) {w : World} (hm : Ag m w) : SrcAt w v l.length (atomsCells l) := by
  obtain ⟨⟨base, cap, rfl, _, _, h3⟩, _⟩ := h
  by_cases h0 : 0 < l.length
  · obtain ⟨b, o, rfl, hc⟩ := h3 h0
    refine .inl ⟨_, cap, rfl, fun j u hj => ?_⟩
    have hjl : j < l.length * 2 := by
      have := (List.getElem?_eq_some_iff.1 hj).1; rwa [atomsCells_length] at this
    have hq : j / 2 < l.length := by omega
    rw [add_addr]
    have e : j / 2 * 2 + j % 2 = j := by omega
    rw [← e, atomsCells_at l (j / 2) hq (j % 2) (by omega)] at hj
    have hg : l.getD (j / 2) ⟨false, 0⟩ = l[j / 2] := by simp [List.getD_eq_getElem?_getD, hq]
    have := hm _ _ ((hc (j / 2) hq).2 (j % 2) u (by rw [hg]; exact hj))
    rw [show o + j / 2 * 2 + j % 2 = o + j from by omega] at this
    exact this
  · have hl : l = [] := List.eq_nil_of_length_eq_zero (by omega)
    subst hl
    cases base with
    | none => exact .inr ⟨cap, rfl, rfl, rfl⟩
    | some a => exact .inl ⟨a, cap, rfl, fun j u hj => by simp [atomsCells] at hj⟩
/-- Cells of a row that the call owns, in a memory m that holds them. -/
theorem slc_of {w : World} {base : Nat} {e : TypeId} {size : Nat} {v : Value} {n : Nat} {xs : List Value} (h : w.ownsRow base e size v n xs) (hn : n ≤ 140737488355328) {m : Mp} (hm : ∀ g o u, v.ownBlock = some g → w.cell? ⟨g, o, none⟩ = some u → m ⟨g, o, none⟩ = some u)
    {cs : Nat → List Value} (hcs : ∀ i, i < n → (cs i).length = size ∧ ∀ j u, (cs i)[j]? = some u → xs[i * size + j]? = some u) : Slc m size v n cs := by
  have hcells := h
  rcases h.2 with ⟨rfl, h2⟩ | ⟨g, cap, cur, rfl, hg, _, h3, _⟩
  · exact ⟨none, 0, by rw [h2], by omega, by omega, fun h0 => by omega⟩
  · refine ⟨_, cap, rfl, h3, by omega, fun _ => ⟨g, 0, rfl, fun i hi => ⟨(hcs i hi).1, fun j u hj => ?_⟩⟩⟩
    have h4 := hcells.cells rfl _ u ((hcs i hi).2 j u hj)
    rw [add_addr] at h4
    rw [show 0 + i * size + j = 0 + (i * size + j) from by omega]
    exact hm g _ u rfl h4
theorem ratoms_of {w0 w : World} {base : Nat} {e : TypeId} {v : Value} {l : List Atm} (h : w.ownsRow base e 2 v l.length (atomsCells l)) (hi : ∀ x ∈ l, I64 x.n) (hn : l.length ≤ 140737488355328) (h0 : w0.heap.size ≤ base) : RAtoms (newM w0 w) v l := by
  refine ⟨slc_of h hn (fun g o u hg hc => newM_of hc (by have := (h.lt g hg).1; show w0.heap.size ≤ g; omega)) (fun i hi' => ⟨rfl, fun j u hj => ?_⟩), hi⟩
  have hj2 : j < 2 := (List.getElem?_eq_some_iff.1 hj).1
  rw [atomsCells_at l i hi' j hj2]
  rw [show l.getD i ⟨false, 0⟩ = l[i] from by simp [List.getD_eq_getElem?_getD, hi']] at hj
  exact hj
theorem ownsRow_empty {w : World} {g base : Nat} {e : TypeId} (size : Nat) (h : w.heap[g]? = some (.cells #[] e (0, 0))) (hb : base ≤ g) : w.ownsRow base e size (.slice (some ⟨g, 0, none⟩) 0 0) 0 [] :=
  ⟨by simp, .inr ⟨g, 0, #[], rfl, hb, h, by omega, by simp [maxLen], by simp, by simp⟩⟩
/-- What is appended to an empty row of the call's own changes nothing that was there. -/
theorem PushedN.below {base : Nat} {e : TypeId} {size : Nat} {w w' : World} {v v' : Value} {n : Nat} {xs : List Value} (h : PushedN base e size w w' v v' n xs) {B : Nat} {w0 : World} (hb : Below B w0 w) (hB : B ≤ w.heap.size) (hbase : ∀ k, v.ownBlock = some k → B ≤ k) : Below B w0 w' := hb.grown h.gr hB hbase
theorem PushedN.kept0 {base : Nat} {e : TypeId} {size : Nat} {w w' : World} {v v' : Value} {n : Nat} {xs : List Value} (h : PushedN base e size w w' v v' n xs) : Kept v.ownBlock.toList w w' := ⟨h.gr.os, h.gr.tape, h.gr.output, h.gr.size, fun k hk hn => h.gr.block k hk (fun e => hn (by rw [← e]; simp))⟩
/-- Appended to an empty slice that has no room: nothing that was there changes. -/
theorem wp_append0 {P : Program} {w : World} {o : Oper} {act : Act} {K : Act → World → Prop} {Q : Exit → Act → World → Prop}
    (s x : Operand) {t e : TypeId} (hop : o.op = Op.call { callee := Callee.builtin Builtin.append, args := #[s, x], argTypes := #[t, t] })
    {base : Nat} {i : TypeInfo} {z : Value} {size bytes : Nat} (ht : P.underlying t = some (.slice e)) (hi : P.info? e = some i) (hz : i.zero = some z)
    (hsize : i.size = size) (hby : i.bytes = bytes) (hzs : z.cells.size = size) (hsz : 0 < size) {g : Nat} (hs : act.eval s = .slice (some ⟨g, 0, none⟩) 0 0) (hown : w.heap[g]? = some (.cells #[] e (0, 0))) (hg : base ≤ g)
    {sv : Value} {m : Nat} {news : List Value} (hx : act.eval x = sv) (hl : news.length = m * size) (hnews : SrcAt w sv m news) (h1 : ∀ u ∈ news, u.oneCell' = true) (h63 : m ≤ maxLen) (hbytes : m * bytes ≤ 140737488355328) (hbase : base ≤ w.heap.size)
    (hK : ∀ v' w', w'.ownsRow base e size v' m news → Below w.heap.size w w' → K (act.put o.dst v') w') : Oper.wp P o act w K Q := by
  have hrun : ∃ v' w', (Builtin.append_ #[t, t] o.type #[.slice (some ⟨g, 0, none⟩) 0 0, sv]).run P w = .ok v' w' ∧ w'.ownsRow base e size v' m news ∧ Below w.heap.size w w' := by
    have ho := ownsRow_empty (w := w) size hown hg
    rcases hnews with ⟨a, c, rfl, hc⟩ | ⟨c, rfl, rfl, rfl⟩
    · rcases Nat.eq_zero_or_pos m with h0 | h0
      · subst h0
        have hn : news = [] := List.eq_nil_of_length_eq_zero (by simpa using hl)
        subst hn
        refine ⟨_, w, ?_, ho, Below.refl _ _⟩
        simp [Builtin.append_, run_underlying ht, sizeOf, typeInfo, hi, Builtin.lenOf, run_firstCells_some (P := P) w i.size 0 a 0 c [] (by simp) (by simp), storeCells]
      · obtain ⟨v', w', hr, h2, h3⟩ := run_append_arg_grows (P := P) w t o.type e i z size bytes ht hi hz hsize hby hzs hsz ⟨g, 0, none⟩ 0 0 [] (by simp) (by simp) a m c news hl hc (by omega) (by omega) (by rw [Nat.zero_add]; exact hbytes)
        refine ⟨v', w', hr, ?_, ⟨h3.os, h3.tape, h3.output, h3.size, fun k hk => h3.block k hk (by simp)⟩⟩
        have := ownsRow_base h2 hbase
        simpa using this
    · exact ⟨_, w, run_append_nil ht hi ho c, ho, Below.refl _ _⟩
  obtain ⟨v', w', hrun, r1, r2⟩ := hrun
  unfold Oper.wp
  simp [execOp, hop, resolve, invoke, builtin, hs, hx, hrun, Result.andThen]
  exact hK _ _ r1 r2
theorem step_append0 {P : Program} {w : World} {ops : Array Oper} {o : Oper} {act : Act} {K : Act → World → Prop} {Q : Exit → Act → World → Prop} {E : Prop} (hgd : o.guard = none)
    (s x : Operand) {t e : TypeId} (hop : o.op = Op.call { callee := Callee.builtin Builtin.append, args := #[s, x], argTypes := #[t, t] })
    {base : Nat} {i : TypeInfo} {z : Value} {size bytes : Nat} (ht : P.underlying t = some (.slice e)) (hi : P.info? e = some i) (hz : i.zero = some z)
    (hsize : i.size = size) (hby : i.bytes = bytes) (hzs : z.cells.size = size) (hsz : 0 < size) {g : Nat} (hs : act.eval s = .slice (some ⟨g, 0, none⟩) 0 0) (hown : w.heap[g]? = some (.cells #[] e (0, 0))) (hg : base ≤ g)
    {sv : Value} {m : Nat} {news : List Value} (hx : act.eval x = sv) (hl : news.length = m * size) (hnews : SrcAt w sv m news) (h1 : ∀ u ∈ news, u.oneCell' = true) (h63 : m ≤ maxLen) (hbytes : m * bytes ≤ 140737488355328) (hbase : base ≤ w.heap.size)
    (hK : ∀ v' w', w'.ownsRow base e size v' m news → Below w.heap.size w w' → K (act.put o.dst v') w') : if Region.wanted o (yielded ops act.tmps) = true then Oper.wp P o act w K Q else E := by
  rw [if_pos (by simp [Region.wanted, hgd])]
  exact wp_append0 s x hop ht hi hz hsize hby hzs hsz hs hown hg hx hl hnews h1 h63 hbytes hbase hK
/-- What lies in w' from block n on, but in none of S. -/
def newS (n : Nat) (S : List Nat) (w' : World) : Mp := fun a => if a.block < n ∨ a.block ∈ S then none else w'.cell? a
theorem newS_sub {n : Nat} {S S' : List Nat} {w w' : World} (hk : Kept S w w') (hs : ∀ k ∈ S', k ∈ S ∨ w.heap.size ≤ k) : ∀ a v, newS n S w a = some v → newS n S' w' a = some v := by
  intro a v ha
  unfold newS at ha ⊢
  split at ha
  · cases ha
  · rename_i hn
    have hlt := World.block_lt_of_cell? w a ha
    rw [if_neg (fun h => by
      rcases h with h | h
      · exact hn (.inl h)
      · rcases hs _ h with h | h
        · exact hn (.inr h)
        · omega)]
    exact hk.cell ha (fun h => hn (.inr h))
theorem newS_of {n : Nat} {S : List Nat} {w : World} {a : Addr} {v : Value} (h : w.cell? a = some v) (hn : n ≤ a.block) (hs : a.block ∉ S) : newS n S w a = some v := by
  unfold newS; rw [if_neg (by rintro (h | h); omega; exact hs h)]; exact h
theorem newS_M {n : Nat} {S : List Nat} {w0 w : World} (h : w0.heap.size ≤ n) : ∀ a v, newS n S w a = some v → newM w0 w a = some v := by
  intro a v ha
  unfold newS at ha
  split at ha
  · cases ha
  · rename_i hn; exact newM_of ha (by have : ¬ a.block < n := fun h => hn (.inl h); omega)
theorem newM_S {n : Nat} {S : List Nat} {w0 w : World} (h : n ≤ w0.heap.size) (hs : ∀ k ∈ S, k < w0.heap.size) : ∀ a v, newM w0 w a = some v → newS n S w a = some v := by
  intro a v ha
  unfold newM at ha
  split at ha
  · cases ha
  · rename_i hn; exact newS_of ha (by omega) (fun h => by have := hs _ h; omega)
/-- A function's cells, the i-th of a row. -/
def FunRow (M : Mp) (xs : List Value) (i : Nat) (f : Int × List Int × Term) : Prop := ∃ (vp : Value) (c : List Value), c.length = 8 ∧ (∀ k v, ([Value.int .i64 f.1, vp] ++ c)[k]? = some v → xs[i * 10 + k]? = some v) ∧ RInts M vp f.2.1 ∧ RTerm M c f.2.2
def TermRow (M : Mp) (xs : List Value) (i : Nat) (t : Term) : Prop := ∃ c : List Value, c.length = 8 ∧ (∀ k v, c[k]? = some v → xs[i * 8 + k]? = some v) ∧ RTerm M c t
theorem FunRow.mono {M M' : Mp} (h : ∀ a v, M a = some v → M' a = some v) {xs xs' : List Value} (hx : ∀ (k : Nat) (v : Value), xs[k]? = some v → xs'[k]? = some v) {i : Nat} {f : Int × List Int × Term} (hr : FunRow M xs i f) : FunRow M' xs' i f := by
  obtain ⟨vp, c, h1, h2, h3, h4⟩ := hr
  exact ⟨vp, c, h1, fun k v hk => hx _ _ (h2 k v hk), RInts.mono h h3, h4.mono h⟩
theorem TermRow.mono {M M' : Mp} (h : ∀ a v, M a = some v → M' a = some v) {xs xs' : List Value} (hx : ∀ (k : Nat) (v : Value), xs[k]? = some v → xs'[k]? = some v) {i : Nat} {t : Term} (hr : TermRow M xs i t) : TermRow M' xs' i t := by
  obtain ⟨c, h1, h2, h4⟩ := hr
  exact ⟨c, h1, fun k v hk => hx _ _ (h2 k v hk), h4.mono h⟩
theorem append_at {α : Type} (xs ys : List α) : ∀ (k : Nat) (v : α), xs[k]? = some v → (xs ++ ys)[k]? = some v := fun k v h => by
  rw [List.getElem?_append_left (List.getElem?_eq_some_iff.1 h).1]; exact h
theorem append_at2 {α : Type} (xs ys : List α) (n : Nat) (hn : xs.length = n) : ∀ (k : Nat) (v : α), ys[k]? = some v → (xs ++ ys)[n + k]? = some v := fun k v h => by
  rw [List.getElem?_append_right (by omega), hn, Nat.add_sub_cancel_left]; exact h
theorem rterm_len {m : Mp} {c : List Value} {t : Term} (h : RTerm m c t) : c.length = 8 := by cases h; rfl
/-- A term is made of its parts. -/
theorem rterm_make {M : Mp} {t : Term} {vt va vf vn : Value} {xf xn : List Value} {w : World} {base bn : Nat} {ef en : TypeId} (ik : I64 t.kind) (ix : I64 t.x) (inn : I64 t.n) (ht : RInts M vt t.tags) (ha : RAtoms M va t.args)
    (hf : w.ownsRow base ef 10 vf t.funs.length xf) (hn : w.ownsRow bn en 8 vn t.next.length xn) (hfl : t.funs.length ≤ 140737488355328) (hnl : t.next.length ≤ 140737488355328)
    (hMf : ∀ g o u, vf.ownBlock = some g → w.cell? ⟨g, o, none⟩ = some u → M ⟨g, o, none⟩ = some u) (hMn : ∀ g o u, vn.ownBlock = some g → w.cell? ⟨g, o, none⟩ = some u → M ⟨g, o, none⟩ = some u)
    (hF : ∀ i (hi : i < t.funs.length), FunRow M xf i t.funs[i]) (hN : ∀ i (hi : i < t.next.length), TermRow M xn i t.next[i]) (hI : ∀ i (hi : i < t.funs.length), I64 t.funs[i].1) :
    RTerm M [.int .i64 t.kind, .int .i64 t.x, .int .i64 t.n, .bool t.ints, vt, va, vf, vn] t := by
  have hF' : ∀ i, ∃ p : Value × List Value, ∀ hi : i < t.funs.length, p.2.length = 8 ∧ (∀ k v, ([Value.int .i64 t.funs[i].1, p.1] ++ p.2)[k]? = some v → xf[i * 10 + k]? = some v) ∧ RInts M p.1 t.funs[i].2.1 ∧ RTerm M p.2 t.funs[i].2.2 := fun i => by
    by_cases hi : i < t.funs.length
    · obtain ⟨vp, c, h⟩ := hF i hi
      exact ⟨(vp, c), fun _ => h⟩
    · exact ⟨(vt, []), fun h => absurd h hi⟩
  have hN' : ∀ i, ∃ c : List Value, ∀ hi : i < t.next.length, c.length = 8 ∧ (∀ k v, c[k]? = some v → xn[i * 8 + k]? = some v) ∧ RTerm M c t.next[i] := fun i => by
    by_cases hi : i < t.next.length
    · obtain ⟨c, h⟩ := hN i hi
      exact ⟨c, fun _ => h⟩
    · exact ⟨[], fun h => absurd h hi⟩
  obtain ⟨pf, hpf⟩ := Classical.skolem.1 hF'
  obtain ⟨cn, hcn⟩ := Classical.skolem.1 hN'
  obtain ⟨k, x, n, ints, tags, args, funs, next⟩ := t
  refine RTerm.mk k x n ints tags args funs next vt va vf vn (fun i => .int .i64 (funs.getD i (0, [], .mk 0 0 0 false [] [] [] [])).1 :: (pf i).1 :: (pf i).2) cn (fun i => (pf i).2) (fun i => (pf i).1) ik ix inn ht ha ?_ ?_ (fun i f hi => ?_) (fun i f hi => ?_) (fun i s hi => ?_)
  · refine slc_of hf hfl hMf (fun i hi => ?_)
    obtain ⟨h1, h2, _⟩ := hpf i hi
    refine ⟨by simp [h1], fun j u hj => h2 j u ?_⟩
    have hg : funs.getD i (0, [], .mk 0 0 0 false [] [] [] []) = funs[i]'hi := by rw [List.getD_eq_getElem?_getD, List.getElem?_eq_getElem (show i < funs.length from hi)]; rfl
    rw [hg] at hj
    exact hj
  · refine slc_of hn hnl hMn (fun i hi => ?_)
    obtain ⟨h1, h2, _⟩ := hcn i hi
    exact ⟨h1, h2⟩
  · obtain ⟨hi', rfl⟩ := List.getElem?_eq_some_iff.1 hi
    obtain ⟨_, _, h3, _⟩ := hpf i hi'
    have hg : funs.getD i (0, [], .mk 0 0 0 false [] [] [] []) = funs[i]'hi' := by rw [List.getD_eq_getElem?_getD, List.getElem?_eq_getElem (show i < funs.length from hi')]; rfl
    exact ⟨by rw [hg], h3, hI i hi'⟩
  · obtain ⟨hi', rfl⟩ := List.getElem?_eq_some_iff.1 hi
    exact (hpf i hi').2.2.2
  · obtain ⟨hi', rfl⟩ := List.getElem?_eq_some_iff.1 hi
    exact (hcn i hi').2.2
theorem src_new (W : World) (cs : List Value) (t : TypeId) (n c : Nat) : SrcAt (W.alloc (.cells cs.toArray t)) (.slice (some ⟨W.heap.size, 0, none⟩) n c) n cs :=
  .inl ⟨_, c, rfl, fun j u hj => by rw [add_addr, Nat.zero_add]; exact (BoxAt.new W cs t).2 j u hj⟩
theorem newM_to {n : Nat} {S S' : List Nat} {wa wb wc : World} (hn : n ≤ wa.heap.size) (hk : Kept S wb wc) (hS : ∀ k ∈ S, k < wa.heap.size) (hS' : ∀ k ∈ S', k ∈ S ∨ wb.heap.size ≤ k) : ∀ a v, newM wa wb a = some v → newS n S' wc a = some v := by
  intro a v ha
  unfold newM at ha
  split at ha
  · cases ha
  · rename_i hlt
    have hb := World.block_lt_of_cell? wb a ha
    exact newS_of (hk.cell ha (fun h => by have := hS _ h; omega)) (by omega) (fun h => by
      rcases hS' _ h with h | h
      · have := hS _ h; omega
      · omega)
end Go.Proofs.Ytjcgoohmhbgkiaa
