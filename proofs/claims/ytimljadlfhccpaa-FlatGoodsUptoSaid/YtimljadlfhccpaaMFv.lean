/- slices.Backward over a slice of ints. What a run of a flat program tells: as plain functions; and what the run's walk needs. -/
import Derived.RangeFuncNested
import Derived.RangeFuncBound
import Derived.RangeFuncCalls
import Derived.RangeFuncLeaves
import Derived.Shelf.Abstract
import Derived.Shelf.RegionOpen
import Derived.WalkKit
import Derived.OwnWalkIn
import Derived.TacticsInMore
import Derived.LoopNIn
import Derived.LoopIn
import Derived.Test.YtimljadlfhccpaaProg
import Derived.Test.YtimljadlfhccpaaMA
import Derived.Lib.Hide
import Derived.Test.YtimljadlfhccpaaMGA
set_option linter.all false
set_option linter.all false
set_option linter.all false
set_option linter.all false
namespace Go.Proofs.Ytimljadlfhccpaa
open Go.RowKit Go.Shelf
attribute [local go_sem] Oper.semAt_some
set_option maxHeartbeats 2000000

/-- All blocks below n but R are as they were. -/
def Kq (n R : Nat) (w w' : World) : Prop := ∀ k, k < n → k ≠ R → w'.heap[k]? = w.heap[k]?
theorem Kq.refl (n R : Nat) (w : World) : Kq n R w w := fun _ _ _ => rfl
theorem Kq.trans {n R : Nat} {a b c : World} (h : Kq n R a b) (k : Kq n R b c) : Kq n R a c := fun i h1 h2 => (k i h1 h2).trans (h i h1 h2)
theorem Kq.cell {n R : Nat} {a b : World} (h : Kq n R a b) {p : Addr} (h1 : p.block < n) (h2 : p.block ≠ R) : b.cell? p = a.cell? p := World.cell?_of_block (h _ h1 h2)
abbrev SI := { v : Int // I64 v }
def SI.zero : SI := ⟨0, by unfold I64; omega⟩
/-- What comes of a list from its end, the first k. -/
def bw (zs : List SI) (k : Nat) : List (Int × SI) := (List.range k).map fun j => (((zs.length - 1 - j : Nat) : Int), zs.getD (zs.length - 1 - j) SI.zero)
theorem bw_succ (zs : List SI) (k : Nat) : bw zs (k + 1) = bw zs k ++ [(((zs.length - 1 - k : Nat) : Int), zs.getD (zs.length - 1 - k) SI.zero)] := by
  simp [bw, List.range_succ]
theorem bw_length (zs : List SI) (k : Nat) : (bw zs k).length = k := by simp [bw]
set_option maxRecDepth 100000 in
theorem bw_in (F : Fence) (n : Nat) (h8 : F.fn 85) (hro : F.round = none) (hn : 1 ≤ n) (l Bs n₀ R : Nat) (ao : Option Addr) (cap : Nat) (zs : List SI) (hz : zs.length ≤ 140737488355328) (J Jx : List (Int × SI) → World → Prop)
    (hY : ∀ pre x W, J pre W → pre.length < zs.length → YieldAt F (n - 1) Try.prog l #[.int .i64 x.1, .int .i64 x.2.1] W fun e W' =>
      (e = .returned (.bool true) ∧ J (pre ++ [x]) W' ∧ Kq n₀ R W W') ∨ (e = .returned (.bool false) ∧ Jx (pre ++ [x]) W'))
    (W : World) (hB : Bs < n₀ ∧ Bs ≠ R) (hBs : W.cell? ⟨Bs, 0, none⟩ = some (.slice ao zs.length cap)) (hcap : zs.length ≤ cap) (hc : ∀ i (hi : i < zs.length), ∃ b o, ao = some ⟨b, o, none⟩ ∧ (b < n₀ ∧ b ≠ R) ∧ ∀ j (hj : j < zs.length), W.cell? ⟨b, o + j, none⟩ = some (.int .i64 zs[j].1)) (h0 : J [] W) :
    CallsIn F n Try.prog 85 #[.func (.yield l) #[] #[], .pointer (some ⟨Bs, 0, none⟩)] W fun e W' => (∃ v, e = .returned v) ∧
      ((∃ ys, ys = bw zs zs.length ∧ J ys W') ∨ (∃ pre, True ∧ Jx pre W')) := by
  refine callsIn_of_wp Try.func85 rfl h8 ?_ hro
  simp only [Try.ntmps85, List.size_toArray, List.length_cons, List.length_nil, Nat.reduceAdd, Nat.reduceSub, Array.replicate_succ, Array.replicate_zero, List.push_toArray, List.append_toArray, List.nil_append, List.cons_append]
  gi_wp2
  gi_loopw [3] (fun i wr => ∃ k : Nat, k ≤ zs.length ∧ i = .int .i64 ((zs.length : Int) - 1 - k) ∧ J (bw zs k) wr ∧ Kq n₀ R W wr)
    (fun i _ => (intOf i + 1).toNat)
  case atStart => exact ⟨0, Nat.zero_le _, by simp, h0, Kq.refl _ _ _⟩
  case round =>
    obtain ⟨k, hk, rfl, hJs, hnx⟩ := hrel
    have hBr := (hnx.cell (p := ⟨Bs, 0, none⟩) hB.1 hB.2).trans hBs
    by_cases hlt : k < zs.length
    · obtain ⟨i, hi⟩ : ∃ i, zs.length - 1 - k = i := ⟨_, rfl⟩
      have hil : i < zs.length := by omega
      obtain ⟨b, o, rfl, hb, hcs⟩ := hc i hil
      have hcx := (hnx.cell (p := ⟨b, o + i, none⟩) hb.1 hb.2).trans (hcs i hil)
      have hbs := bw_succ zs k
      rw [hi] at hbs
      have hv : zs.getD i SI.zero = zs[i] := by simp [List.getD_eq_getElem?_getD, hil]
      rw [hv] at hbs
      obtain ⟨fn, tmps, assign, body, hy, hR⟩ := hY _ ((i : Int), zs[i]) wr hJs (by rw [bw_length]; exact hlt)
      dsimp only at hy
      have e : (zs.length : Int) - 1 - k = i := by omega
      rw [e]
      have HBS := Lib.hid hbs
      have HI := Lib.hid hi
      clear hbs hi e hv
      gi_wp2
      refine hR.mono ?_
      rintro e W3 (⟨rfl, hJ3, hk3⟩ | ⟨rfl, hJx3⟩)
      · gi_wp2
        go_roundw
        case rel => exact ⟨k + 1, by omega, congrArg (Value.int .i64) (by have := HI.out; omega), by rw [HBS.out]; exact hJ3, hnx.trans hk3⟩
        case measure => simp [intOf]
      · gi_wp2
        refine bodyPost_ret (results_none rfl _ _ _) rfl ?_
        exact ⟨⟨_, rfl⟩, .inr ⟨_, trivial, hJx3⟩⟩
    · obtain rfl : k = zs.length := by omega
      have e : (zs.length : Int) - 1 - zs.length = -1 := by omega
      rw [e]
      clear e
      gi_wp2
      go_end0
      exact ⟨⟨_, rfl⟩, .inl ⟨_, rfl, hJs⟩⟩
theorem bw_stops (F : Fence) (n : Nat) (h8 : F.fn 85) (hro : F.round = none) (hn : 1 ≤ n) (Bs n₀ R : Nat) (ao : Option Addr) (cap : Nat) (zs : List SI) (hz : zs.length ≤ 140737488355328) (w : World) (hB : Bs < n₀ ∧ Bs ≠ R) (hn₀ : n₀ ≤ w.heap.size)
    (hBs : w.cell? ⟨Bs, 0, none⟩ = some (.slice ao zs.length cap)) (hcap : zs.length ≤ cap) (hc : ∀ i (hi : i < zs.length), ∃ b o, ao = some ⟨b, o, none⟩ ∧ (b < n₀ ∧ b ≠ R) ∧ ∀ j (hj : j < zs.length), w.cell? ⟨b, o + j, none⟩ = some (.int .i64 zs[j].1)) :
    SeqStopsK F n Try.prog 85 #[.pointer (some ⟨Bs, 0, none⟩)] (fun x : Int × SI => #[Value.int .i64 x.1, Value.int .i64 x.2.1]) (Kq n₀ R) (fun ys => ys = bw zs zs.length) (fun _ => True) zs.length w := fun l J Jx W hW _ _ hY h0 =>
  bw_in F n h8 hro hn l Bs n₀ R ao cap zs hz J Jx hY W hB ((hW.cell (p := ⟨Bs, 0, none⟩) (by simp; omega)).trans hBs) hcap (fun i hi => by
    obtain ⟨b, o, rfl, hb, hcs⟩ := hc i hi
    exact ⟨b, o, rfl, hb, fun j hj => (hW.cell (p := ⟨b, o + j, none⟩) (by have := hb.1; simp; omega)).trans (hcs j hj)⟩) h0
theorem backward_any (ao : Option Addr) (ln cap : Nat) (w : World) : Calls Try.prog 77 #[.slice ao ln cap] w fun e w' => e = .returned (.func (.func 85) #[] #[.pointer (some ⟨w.heap.size, 0, none⟩)]) ∧ w' = w.alloc (.cells #[.slice ao ln cap] 30) := by
  have hmf : ∀ (fn : Fn) (first cap : Array Value) (w : World), (Instr.makeFunc fn first cap).run Try.prog w = .ok (.func fn first cap) w := fun _ _ _ _ => rfl
  go_enter Try.func77, Try.ntmps77
  go_wp2
  go_ret
  exact ⟨rfl, rfl⟩
end Go.Proofs.Ytimljadlfhccpaa
set_option linter.all false
set_option linter.all false
namespace Go.Proofs.Ytimljadlfhccpaa
open Go.RowKit Go.Shelf
set_option maxHeartbeats 400000

def inputV : List Int → Val
  | [] => .mk 2 0 []
  | x :: r => .mk 2 1 [.mk 1 (w31 x) [], inputV r]
structure Out where
  e : Int
  writes : List Int
  shows : List Int
  steps : Nat
  made : Nat
  work : Nat
  err : Int
def outOf (fin : Fin') : Out :=
  if fin.stuck then ⟨0, [], [], fin.steps, fin.s.made, fin.s.work, 250⟩
  else ⟨fin.e, fin.s.writes, if fin.e = 1 then fin.shows else [], fin.steps, fin.s.made, fin.s.work, 0⟩
def finF (f : Flat) (l : List Int) (fuel : Int) : Fin' := loopF f fuel.toNat (funAt f f.main).2.2 (bindEnv (funAt f f.main).2.1 [inputV l]) 0 ⟨0, 0, []⟩
/-- What a flat program is run to. -/
def runF (f : Flat) (l : List Int) (fuel : Int) : Out :=
  if goodFlat f = false then ⟨0, [], [], 0, 0, 0, 250⟩
  else if 256 < l.length ∨ fuel < 0 ∨ 1048576 < fuel then ⟨0, [], [], 0, 0, 0, 1⟩
  else outOf (finF f l fuel)
theorem bw_all (zs : List SI) : ((bw zs zs.length).map (·.2.1)).reverse = zs.map (·.1) := by
  apply List.ext_getElem
  · simp [bw]
  · intro i h1 h2
    have h2' : i < zs.length := by simpa using h2
    rw [List.getElem_reverse]
    simp only [bw, List.getElem_map, List.getElem_range, List.length_map, List.length_range]
    rw [show zs.length - 1 - (zs.length - 1 - i) = i from by omega]
    simp [List.getD_eq_getElem?_getD, h2']
/-- What is in w' and was not in w. -/
def newM (w w' : World) : Mp := fun a => if a.block < w.heap.size then none else w'.cell? a
theorem newM_cell {w w' : World} {a : Addr} {v : Value} (h : newM w w' a = some v) : w'.cell? a = some v := by unfold newM at h; split at h; cases h; exact h
theorem newM_of {w w' : World} {a : Addr} {v : Value} (h : w'.cell? a = some v) (hb : w.heap.size ≤ a.block) : newM w w' a = some v := by unfold newM; rw [if_neg (by omega)]; exact h
theorem rints_of {w0 w : World} {base : Nat} {e : TypeId} {v : Value} {l : List Int} (h : w.ownsRow base e 1 v l.length (l.map (.int .i64))) (hi : ∀ x ∈ l, I64 x) (hn : l.length ≤ 140737488355328) (h0 : w0.heap.size ≤ base) : RInts (newM w0 w) v l := by
  refine ⟨?_, hi⟩
  have hcells := h
  rcases h.2 with ⟨rfl, h2⟩ | ⟨g, cap, cur, rfl, hg, _, h3, _⟩
  · exact ⟨none, 0, by rw [h2], by omega, by omega, fun h0 => by omega⟩
  · refine ⟨_, cap, rfl, h3, by omega, fun _ => ⟨g, 0, rfl, fun i hi' => ⟨rfl, fun j v hj => ?_⟩⟩⟩
    match j, hj with
    | 0, hj =>
      simp only [List.getElem?_cons_zero, Option.some.injEq] at hj
      subst hj
      have h4 := hcells.cells rfl i (.int .i64 l[i]) (by simp [hi'])
      rw [show (⟨g, 0, none⟩ : Addr).add i = ⟨g, 0 + i, none⟩ from by cases i <;> simp [Addr.add]] at h4
      refine newM_of ?_ (by show w0.heap.size ≤ g; omega)
      simpa [List.getD_eq_getElem?_getD, hi'] using h4
    | j + 1, hj => simp at hj
theorem rints_nil (m : Mp) : RInts m (.slice none 0 0) [] := ⟨⟨none, 0, rfl, by simp, by simp, by simp⟩, by simp⟩
theorem RInts.mono {m m' : Mp} (h : ∀ a v, m a = some v → m' a = some v) {v : Value} {l : List Int} (hr : RInts m v l) : RInts m' v l := ⟨hr.1.mono h, hr.2⟩
theorem rval_grown {nf : Nat} {S : List Nat} {W W' : World} {row : Option Nat} (hg : W.grownBy W' row) (hr : ∀ r, row = some r → ∃ o : Obj, W.heap[r]? = some o ∧ o.isCells = false) {p : Value} {v : Val} (h : RVal nf (memB S W) p v) : RVal nf (memB S W') p v :=
  h.mono fun a u ha => by
    unfold memB at ha ⊢
    split at ha
    · cases ha
    · rename_i hs
      rw [if_neg hs]
      exact cell_kept ha hg hr
theorem cons_new {nf R : Nat} {W : World} {p : Value} {lv : Val} (h : RVal nf (memB [R] W) p lv) (hR : R < W.heap.size) (n : Int) (hn : I64 n) (t1 t2 : TypeId) :
    RVal nf (memB [R] (((W.alloc (.cells #[.int .i64 1, .int .i64 n, .slice none 0 0] t1)).alloc (.cells #[.pointer (some ⟨W.heap.size, 0, none⟩), p] t2)).alloc (.cells #[.int .i64 2, .int .i64 1, .slice (some ⟨W.heap.size + 1, 0, none⟩) 2 2] t1)))
      (.pointer (some ⟨W.heap.size + 1 + 1, 0, none⟩)) (.mk 2 1 [.mk 1 n [], lv]) := by
  have hw := val_new nf [R] W 1 n ⟨by omega, by omega⟩ hn (by omega) (by simp; omega) t1 W.heap.size rfl (.slice none 0 0) [] (fun _ => .slice none 0 0) ⟨none, 0, rfl, by simp, by simp, by simp⟩ (by simp)
  have hb1 := below_box W (.cells #[.int .i64 1, .int .i64 n, .slice none 0 0] t1)
  have hb2 := below_box (W.alloc (.cells #[.int .i64 1, .int .i64 n, .slice none 0 0] t1)) (.cells #[.pointer (some ⟨W.heap.size, 0, none⟩), p] t2)
  have hx := BoxAt.new' (W.alloc (.cells #[.int .i64 1, .int .i64 n, .slice none 0 0] t1)) [.pointer (some ⟨W.heap.size, 0, none⟩), p] t2 (W.heap.size + 1) (by simp)
  refine val_new nf [R] _ 2 1 ⟨by omega, by omega⟩ ⟨by omega, by omega⟩ (by omega) (by simp; omega) t1 _ (by simp) _ [.mk 1 n [], lv] (fun i => if i = 0 then .pointer (some ⟨W.heap.size, 0, none⟩) else p) ?_ ?_
  · refine ⟨_, 2, rfl, by simp, by simp, fun _ => ⟨W.heap.size + 1, 0, rfl, fun i hi => ⟨rfl, fun j v hj => ?_⟩⟩⟩
    match j, hj with
    | 0, hj =>
      simp only [List.getElem?_cons_zero, Option.some.injEq] at hj
      unfold memB
      rw [if_neg (by simp; omega)]
      match i, hi with
      | 0, _ => rw [← hj]; exact hx.2 0 _ rfl
      | 1, _ => rw [← hj]; exact hx.2 1 _ rfl
    | j + 1, hj => simp at hj
  · intro i a hi
    match i, hi with
    | 0, hi =>
      simp only [List.getElem?_cons_zero, Option.some.injEq] at hi
      subst hi
      exact hw.mono (Ext.below hb2).mem
    | 1, hi =>
      simp only [List.getElem?_cons_succ, List.getElem?_cons_zero, Option.some.injEq] at hi
      subst hi
      exact (h.mono (Ext.below hb1).mem).mono (Ext.below hb2).mem
    | i + 2, hi => simp at hi
theorem si_of {l : List Int} (h : ∀ x ∈ l, I64 x) : ∃ zs : List SI, zs.map (·.1) = l := by
  induction l with
  | nil => exact ⟨[], rfl⟩
  | cons x r ih =>
    obtain ⟨zs, hz⟩ := ih (fun y hy => h y (List.mem_cons_of_mem _ hy))
    exact ⟨⟨x, h x List.mem_cons_self⟩ :: zs, by simp [hz]⟩
/-- 'for _, n := range slices.Backward(l)': what a round keeps (G), the list's end being gone through. -/
theorem range_back {assign body : Code} {Q : Exit → Act → World → Prop} {a : Act} {w : World} {g : Operand} {Bs R : Nat} {ao : Option Addr} {cap : Nat} {l : List Int} (hi : ∀ x ∈ l, I64 x) (hl : l.length ≤ 140737488355328) (hg : a.eval g = .func (.func 85) #[] #[.pointer (some ⟨Bs, 0, none⟩)])
    (hB : Bs < w.heap.size ∧ Bs ≠ R) (hBs : w.cell? ⟨Bs, 0, none⟩ = some (.slice ao l.length cap)) (hcap : l.length ≤ cap) (hc : ∀ i (hi : i < l.length), ∃ b o, ao = some ⟨b, o, none⟩ ∧ (b < w.heap.size ∧ b ≠ R) ∧ ∀ j (hj : j < l.length), w.cell? ⟨b, o + j, none⟩ = some (.int .i64 l[j]))
    (G : List Int → World → Prop) (hG : ∀ s W W' row, G s W → W.grownBy W' row → (∀ r, row = some r → w.heap.size ≤ r ∧ ∃ o : Obj, W.heap[r]? = some o ∧ o.isCells = false) → G s W') (h0 : G [] w)
    (hassign : ∀ (n : Nat) (x y : Int) (W : World) (K : Act → World → Prop), K { tmps := ((a.tmps.setIfInBounds 40 (.int .i64 x)).setIfInBounds 41 (.int .i64 y)).setIfInBounds 11 (.int .i64 y), defers := [] } W →
      assign.wpIn (Fence.wide.inRound n) 8 Try.prog (Exit.then K (fun _ _ _ => False)) { tmps := (a.tmps.setIfInBounds 40 (.int .i64 x)).setIfInBounds 41 (.int .i64 y), defers := [] } W)
    (hbody : ∀ (n : Nat) (s : List Int) (x y : Int) (W : World) (P : Exit → Act → World → Prop), G s W → I64 y → (∀ a' W', KeepsFrom w.heap.size W W' → Kq w.heap.size R W W' → G (y :: s) W' → P .normal a' W') → body.wpIn (Fence.wide.inRound n) 8 Try.prog P { tmps := ((a.tmps.setIfInBounds 40 (.int .i64 x)).setIfInBounds 41 (.int .i64 y)).setIfInBounds 11 (.int .i64 y), defers := [] } W)
    (hdone : ∀ (D : Nat) (W : World), w.heap.size ≤ D → G l W → W.heap[D]? = some (.deferred (some [])) → Q .normal { a with defers := { target := .collected D, args := #[] } :: a.defers } W) :
    (Code.rangeFunc g #[40, 41] assign body).wp Try.prog Q a w := by
  obtain ⟨zs, rfl⟩ := si_of hi
  simp only [List.length_map] at hl hBs hcap hc
  refine (wpIn_wide (n := 10)).1 ?_
  refine wpIn_rangeFunc_ownG (α := Int × SI) rfl (by omega) (gf := 85) (lb := #[.pointer (some ⟨Bs, 0, none⟩)]) hg trivial (enters_of Try.func85 (by kernel_rfl) rfl)
    (bw_stops Fence.wide 9 trivial rfl (by omega) Bs w.heap.size R ao cap zs hl w hB (Nat.le_refl _) hBs hcap (fun i hi => by
      obtain ⟨b, o, h1, h2, h3⟩ := hc i hi
      exact ⟨b, o, h1, h2, fun j hj => by rw [h3 j hj]; simp⟩)) (fun h k => h.trans k) (fun W n o o' h1 h2 h3 h4 k hk _ => World.putObj_heap_other (by omega)) (Below.refl _ _) (fun _ => rfl)
    (fun (pre : List (Int × SI)) W => G ((pre.map (fun x => x.2.1)).reverse) W) (fun _ _ _ => False) (fun (s : List (Int × SI)) W W' row hs hg hr => hG ((s.map (fun x => x.2.1)).reverse) W W' row hs hg hr) (fun _ _ _ _ _ hs _ _ => hs) h0
    (fun x => { tmps := ((a.tmps.setIfInBounds 40 (.int .i64 x.1)).setIfInBounds 41 (.int .i64 x.2.1)).setIfInBounds 11 (.int .i64 x.2.1), defers := [] }) ?assign ?body ?done ?stop
  case assign =>
    intro n x W K hK
    have h := hassign n x.1 x.2.1 W K hK
    simpa using h
  case body =>
    intro n pre x W hi _
    refine hbody n _ x.1 x.2.1 W _ hi x.2.2 (fun a' W' h1 h2 h3 => ⟨h1, h2, ?_⟩)
    simpa using h3
  case done =>
    rintro D ys W hD rfl hi hK
    exact hdone D W hD (by rw [← bw_all]; exact hi) hK
  case stop =>
    rintro D c pre W _ _ h _
    exact h.elim
/-- What a run tells, in memory. -/
structure ToldAt (t : Out) (w0 w : World) (vw vs : Value) (cb : Nat) : Prop where
  writes : RInts (newM w0 w) vw t.writes
  shows : RInts (newM w0 w) vs t.shows
  c0 : w.cell? ⟨cb, 0, none⟩ = some (.int .i64 t.steps)
  c1 : w.cell? ⟨cb, 1, none⟩ = some (.int .i64 t.made)
  c2 : w.cell? ⟨cb, 2, none⟩ = some (.int .i64 t.work)
def RunPost (t : Out) (w : World) (e : Ending) (w' : World) : Prop := ∃ vw vs cb, e = .returned (.tuple #[.agg #[.int .i64 t.e, vw, vs], .pointer (some ⟨cb, 0, none⟩), .int .i64 t.err]) ∧ Below w.heap.size w w' ∧ ToldAt t w w' vw vs cb
theorem new_cells {W w1 : World} {cs : List Value} {t : TypeId} {b : Nat} (hb : Below (W.alloc (.cells cs.toArray t)).heap.size (W.alloc (.cells cs.toArray t)) w1) (hn : b = W.heap.size) : BoxAt b w1 cs ∧ ∀ j, w1.frozen? ⟨b, j, none⟩ = false := by
  subst hn
  exact ⟨(BoxAt.new W cs t).later hb, fun j => frozen_below hb (by simp) (frozen_cells (arr := cs.toArray) (t := t) (by rw [heap_alloc_new]) j)⟩
theorem runF_bad {f : Flat} (h : goodFlat f = false) (l : List Int) (fuel : Int) : runF f l fuel = ⟨0, [], [], 0, 0, 0, 250⟩ := by unfold runF; rw [if_pos h]
theorem runF_arg {f : Flat} (h : goodFlat f = true) {l : List Int} {fuel : Int} (ha : 256 < l.length ∨ fuel < 0 ∨ 1048576 < fuel) : runF f l fuel = ⟨0, [], [], 0, 0, 0, 1⟩ := by
  unfold runF; rw [if_neg (by rw [h]; decide), if_pos ha]
theorem runF_go {f : Flat} (h : goodFlat f = true) {l : List Int} {fuel : Int} (ha : ¬ (256 < l.length ∨ fuel < 0 ∨ 1048576 < fuel)) : runF f l fuel = outOf (finF f l fuel) := by
  unfold runF; rw [if_neg (by rw [h]; decide), if_neg ha]
end Go.Proofs.Ytimljadlfhccpaa
