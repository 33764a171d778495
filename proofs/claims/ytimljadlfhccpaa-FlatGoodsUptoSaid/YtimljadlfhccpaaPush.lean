/- 'l = append(l, x)' where l is the call's own, or nil: whether it grows or not; where it lies behind. No program in sight. -/
import Derived.WalkKit
import Derived.OwnWalk
import Derived.ArgAppend
import Derived.Deep.RegionLaw
set_option linter.all false
set_option linter.all false
set_option linter.all false
set_option linter.all false
namespace Go.Proofs.Ytimljadlfhccpaa
open Go.RowKit

/-- What one element more leaves. -/
structure Pushed (base : Nat) (e : TypeId) (w w' : World) (v v' : Value) (n : Nat) (xs : List Value) : Prop where
  own : w'.ownsRow base e 1 v' n xs
  gr : w.grownBy w' v.ownBlock
  new : ∀ k, v'.ownBlock = some k → v.ownBlock = some k ∨ w.heap.size ≤ k
  some : ∃ g cap, v' = .slice (some ⟨g, 0, none⟩) n cap
theorem grownBy_none {w w' : World} (h : w.grownBy w' none) (r : Option Nat) : w.grownBy w' r := ⟨h.os, h.tape, h.output, h.size, fun k hk _ => h.block k hk (by simp)⟩
theorem ownsRow_base {w : World} {b b' : Nat} {e : TypeId} {size : Nat} {v : Value} {n : Nat} {xs : List Value} (h : w.ownsRow b e size v n xs) (hb : b' ≤ b) : w.ownsRow b' e size v n xs := by
  obtain ⟨h1, h2⟩ := h
  refine ⟨h1, ?_⟩
  rcases h2 with h2 | ⟨g, cap, cur, a, h3, r⟩
  · exact .inl h2
  · exact .inr ⟨g, cap, cur, a, by omega, r⟩
theorem ownsRow_some {w : World} {b : Nat} {e : TypeId} {size : Nat} {v : Value} {n : Nat} {xs : List Value} (h : w.ownsRow b e size v n xs) (hn : 0 < n) : ∃ g cap, v = .slice (some ⟨g, 0, none⟩) n cap := by
  obtain ⟨_, h2⟩ := h
  rcases h2 with ⟨_, h2⟩ | ⟨g, cap, cur, a, _⟩
  · omega
  · exact ⟨g, cap, a⟩
theorem run_push {P : Program} {w : World} {base : Nat} {t ty e : TypeId} {i : TypeInfo} {z : Value} {bytes : Nat} (ht : P.underlying t = some (.slice e)) (hi : P.info? e = some i) (hz : i.zero = some z)
    (hsize : i.size = 1) (hby : i.bytes = bytes) (hzs : z.cells.size = 1) {v : Value} {n : Nat} {xs : List Value} (hown : w.ownsRow base e 1 v n xs)
    {a : Addr} {c : Nat} {x : Value} (hx : w.cell? a = some x) (h1 : x.oneCell' = true) (h63 : n + 1 ≤ maxLen) (hbytes : (n + 1) * bytes ≤ 140737488355328) (hbase : base ≤ w.heap.size) :
    ∃ v' w', (Builtin.append_ #[t, t] ty #[v, .slice (some a) 1 c]).run P w = .ok v' w' ∧ Pushed base e w w' v v' (n + 1) (xs ++ [x]) := by
  have hnews : ∀ j u, [x][j]? = some u → w.cell? (a.add j) = some u := by
    intro j u hj
    match j, hj with
    | 0, hj => simp at hj; subst hj; simpa [Addr.add] using hx
    | j + 1, hj => simp at hj
  have h1' : ∀ u ∈ [x], u.oneCell' = true := by intro u hu; simp at hu; subst hu; exact h1
  rcases hown.2 with ⟨rfl, rfl⟩ | ⟨g, cap, cur, rfl, hg, hh, hnc, hcm, hsz, htk⟩
  · have hx0 : xs = [] := List.eq_nil_of_length_eq_zero (by simpa using hown.1)
    subst hx0
    obtain ⟨v', w', hr, h2, h3, _⟩ := run_append_own (P := P) w w.heap.size t ty e i z 1 bytes ht hi hz hsize hby hzs (by omega) (.slice none 0 0) 0 [] (World.ownsRow_nil w _ e 1) a 1 c [x] rfl hnews h1' h63 hbytes (Nat.le_refl _)
    exact ⟨v', w', hr, ownsRow_base h2 hbase, h3, fun k hk => .inr (h2.lt k hk).1, ownsRow_some h2 (by omega)⟩
  · by_cases hfit : n + 1 ≤ cap
    · obtain ⟨w', hr, h2, h3⟩ := run_append_fits (P := P) w base t ty e i 1 ht hi hsize g n cap xs hown a 1 c [x] rfl hnews h1' hfit
      exact ⟨_, w', hr, h2, h3, fun k hk => .inl hk, ⟨g, cap, rfl⟩⟩
    · obtain ⟨v', w', hr, h2, h3⟩ := run_append_arg_grows (P := P) w t ty e i z 1 bytes ht hi hz hsize hby hzs (by omega) ⟨g, 0, none⟩ n cap xs (by simpa using hown.1) (fun j u hj => hown.cells rfl j u hj) a 1 c [x] rfl hnews (by omega) h63 hbytes
      exact ⟨v', w', hr, ownsRow_base h2 hbase, grownBy_none h3 _, fun k hk => .inr (h2.lt k hk).1, ownsRow_some h2 (by omega)⟩
theorem wpList_push {P : Program} {w : World} {ops : Array Oper} {rest : List Oper} {o : Oper} {act : Act} {Q : Exit → Act → World → Prop}
    (hg : o.guard = none) (s x : Operand) {t e : TypeId} (hop : o.op = Op.call { callee := Callee.builtin Builtin.append, args := #[s, x], argTypes := #[t, t] })
    {base : Nat} {i : TypeInfo} {z : Value} {bytes : Nat} (ht : P.underlying t = some (.slice e)) (hi : P.info? e = some i) (hz : i.zero = some z)
    (hsize : i.size = 1) (hby : i.bytes = bytes) (hzs : z.cells.size = 1) {v : Value} {n : Nat} {xs : List Value} (hs : act.eval s = v) (hown : w.ownsRow base e 1 v n xs)
    {a : Addr} {c : Nat} {y : Value} (hx : act.eval x = .slice (some a) 1 c) (hy : w.cell? a = some y) (h1 : y.oneCell' = true) (h63 : n + 1 ≤ maxLen) (hbytes : (n + 1) * bytes ≤ 140737488355328) (hbase : base ≤ w.heap.size)
    (hK : ∀ v' w', Pushed base e w w' v v' (n + 1) (xs ++ [y]) → wpList P ops Q rest (act.put o.dst v') w') : wpList P ops Q (o :: rest) act w := by
  refine wpList_plain hg fun K hK' => ?_
  obtain ⟨v', w', hrun, r⟩ := run_push (P := P) (ty := o.type) ht hi hz hsize hby hzs hown (c := c) hy h1 h63 hbytes hbase
  unfold Oper.wp
  simp [execOp, hop, resolve, invoke, builtin, hs, hx, hrun, Result.andThen]
  exact hK' _ _ (hK v' w' r)
theorem step_push {P : Program} {w : World} {ops : Array Oper} {o : Oper} {act : Act} {K : Act → World → Prop} {Q : Exit → Act → World → Prop} {E : Prop}
    (hg : o.guard = none) (s x : Operand) {t e : TypeId} (hop : o.op = Op.call { callee := Callee.builtin Builtin.append, args := #[s, x], argTypes := #[t, t] })
    {base : Nat} {i : TypeInfo} {z : Value} {bytes : Nat} (ht : P.underlying t = some (.slice e)) (hi : P.info? e = some i) (hz : i.zero = some z)
    (hsize : i.size = 1) (hby : i.bytes = bytes) (hzs : z.cells.size = 1) {v : Value} {n : Nat} {xs : List Value} (hs : act.eval s = v) (hown : w.ownsRow base e 1 v n xs)
    {a : Addr} {c : Nat} {y : Value} (hx : act.eval x = .slice (some a) 1 c) (hy : w.cell? a = some y) (h1 : y.oneCell' = true) (h63 : n + 1 ≤ maxLen) (hbytes : (n + 1) * bytes ≤ 140737488355328) (hbase : base ≤ w.heap.size)
    (hK : ∀ v' w', Pushed base e w w' v v' (n + 1) (xs ++ [y]) → K (act.put o.dst v') w') : if Region.wanted o (yielded ops act.tmps) = true then Oper.wp P o act w K Q else E := by
  have hw : Region.wanted o (yielded ops act.tmps) = true := by simp [Region.wanted, hg]
  rw [if_pos hw]
  obtain ⟨v', w', hrun, r⟩ := run_push (P := P) (ty := o.type) ht hi hz hsize hby hzs hown (c := c) hy h1 h63 hbytes hbase
  unfold Oper.wp
  simp [execOp, hop, resolve, invoke, builtin, hs, hx, hrun, Result.andThen]
  exact hK _ _ r
end Go.Proofs.Ytimljadlfhccpaa
