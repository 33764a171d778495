/- slices.Backward over a slice of ints. -/
import Derived.RangeFuncNested
import Derived.RangeFuncBound
import Derived.RangeFuncCalls
import Derived.RangeFuncLeaves
import Derived.Shelf.Abstract
import Derived.Shelf.RegionOpen
import Derived.WalkKit
import Derived.OwnWalkIn
import Derived.TacticsInMore
import Derived.LoopNIn
import Derived.LoopIn
import Derived.Test.YtjcgoohmhbgkiaaProg
import Derived.Test.YtjcgoohmhbgkiaaMA
import Derived.Lib.Hide
set_option linter.all false
set_option linter.all false
namespace Go.Proofs.Ytjcgoohmhbgkiaa
open Go.RowKit Go.Shelf
attribute [local go_sem] Oper.semAt_some
set_option maxHeartbeats 2000000

/-- All blocks below n but R are as they were. -/
def Kq (n R : Nat) (w w' : World) : Prop := ∀ k, k < n → k ≠ R → w'.heap[k]? = w.heap[k]?
theorem Kq.refl (n R : Nat) (w : World) : Kq n R w w := fun _ _ _ => rfl
theorem Kq.trans {n R : Nat} {a b c : World} (h : Kq n R a b) (k : Kq n R b c) : Kq n R a c := fun i h1 h2 => (k i h1 h2).trans (h i h1 h2)
theorem Kq.cell {n R : Nat} {a b : World} (h : Kq n R a b) {p : Addr} (h1 : p.block < n) (h2 : p.block ≠ R) : b.cell? p = a.cell? p := World.cell?_of_block (h _ h1 h2)
abbrev SI := { v : Int // I64 v }
def SI.zero : SI := ⟨0, by unfold I64; omega⟩
/-- What comes of a list from its end, the first k. -/
def bw (zs : List SI) (k : Nat) : List (Int × SI) := (List.range k).map fun j => (((zs.length - 1 - j : Nat) : Int), zs.getD (zs.length - 1 - j) SI.zero)
theorem bw_succ (zs : List SI) (k : Nat) : bw zs (k + 1) = bw zs k ++ [(((zs.length - 1 - k : Nat) : Int), zs.getD (zs.length - 1 - k) SI.zero)] := by
  simp [bw, List.range_succ]
theorem bw_length (zs : List SI) (k : Nat) : (bw zs k).length = k := by simp [bw]
set_option maxRecDepth 100000 in
theorem bw_in (F : Fence) (n : Nat) (h8 : F.fn 49) (hro : F.round = none) (hn : 1 ≤ n) (l Bs n₀ R : Nat) (ao : Option Addr) (cap : Nat) (zs : List SI) (hz : zs.length ≤ 140737488355328) (J Jx : List (Int × SI) → World → Prop)
    (hY : ∀ pre x W, J pre W → pre.length < zs.length → YieldAt F (n - 1) Try.prog l #[.int .i64 x.1, .int .i64 x.2.1] W fun e W' =>
      (e = .returned (.bool true) ∧ J (pre ++ [x]) W' ∧ Kq n₀ R W W') ∨ (e = .returned (.bool false) ∧ Jx (pre ++ [x]) W'))
    (W : World) (hB : Bs < n₀ ∧ Bs ≠ R) (hBs : W.cell? ⟨Bs, 0, none⟩ = some (.slice ao zs.length cap)) (hcap : zs.length ≤ cap) (hc : ∀ i (hi : i < zs.length), ∃ b o, ao = some ⟨b, o, none⟩ ∧ (b < n₀ ∧ b ≠ R) ∧ ∀ j (hj : j < zs.length), W.cell? ⟨b, o + j, none⟩ = some (.int .i64 zs[j].1)) (h0 : J [] W) :
    CallsIn F n Try.prog 49 #[.func (.yield l) #[] #[], .pointer (some ⟨Bs, 0, none⟩)] W fun e W' => (∃ v, e = .returned v) ∧
      ((∃ ys, ys = bw zs zs.length ∧ J ys W') ∨ (∃ pre, True ∧ Jx pre W')) := by
  refine callsIn_of_wp Try.func49 rfl h8 ?_ hro
  simp only [Try.ntmps49, List.size_toArray, List.length_cons, List.length_nil, Nat.reduceAdd, Nat.reduceSub, Array.replicate_succ, Array.replicate_zero, List.push_toArray, List.append_toArray, List.nil_append, List.cons_append]
  gi_wp2
  gi_loopw [3] (fun i wr => ∃ k : Nat, k ≤ zs.length ∧ i = .int .i64 ((zs.length : Int) - 1 - k) ∧ J (bw zs k) wr ∧ Kq n₀ R W wr)
    (fun i _ => (intOf i + 1).toNat)
  case atStart => exact ⟨0, Nat.zero_le _, by simp, h0, Kq.refl _ _ _⟩
  case round =>
    obtain ⟨k, hk, rfl, hJs, hnx⟩ := hrel
    have hBr := (hnx.cell (p := ⟨Bs, 0, none⟩) hB.1 hB.2).trans hBs
    by_cases hlt : k < zs.length
    · obtain ⟨i, hi⟩ : ∃ i, zs.length - 1 - k = i := ⟨_, rfl⟩
      have hil : i < zs.length := by omega
      obtain ⟨b, o, rfl, hb, hcs⟩ := hc i hil
      have hcx := (hnx.cell (p := ⟨b, o + i, none⟩) hb.1 hb.2).trans (hcs i hil)
      have hbs := bw_succ zs k
      rw [hi] at hbs
      have hv : zs.getD i SI.zero = zs[i] := by simp [List.getD_eq_getElem?_getD, hil]
      rw [hv] at hbs
      obtain ⟨fn, tmps, assign, body, hy, hR⟩ := hY _ ((i : Int), zs[i]) wr hJs (by rw [bw_length]; exact hlt)
      dsimp only at hy
      have e : (zs.length : Int) - 1 - k = i := by omega
      rw [e]
      have HBS := Lib.hid hbs
      have HI := Lib.hid hi
      clear hbs hi e hv
      gi_wp2
      refine hR.mono ?_
      rintro e W3 (⟨rfl, hJ3, hk3⟩ | ⟨rfl, hJx3⟩)
      · gi_wp2
        go_roundw
        case rel => exact ⟨k + 1, by omega, congrArg (Value.int .i64) (by have := HI.out; omega), by rw [HBS.out]; exact hJ3, hnx.trans hk3⟩
        case measure => simp [intOf]
      · gi_wp2
        refine bodyPost_ret (results_none rfl _ _ _) rfl ?_
        exact ⟨⟨_, rfl⟩, .inr ⟨_, trivial, hJx3⟩⟩
    · obtain rfl : k = zs.length := by omega
      have e : (zs.length : Int) - 1 - zs.length = -1 := by omega
      rw [e]
      clear e
      gi_wp2
      go_end0
      exact ⟨⟨_, rfl⟩, .inl ⟨_, rfl, hJs⟩⟩
theorem bw_stops (F : Fence) (n : Nat) (h8 : F.fn 49) (hro : F.round = none) (hn : 1 ≤ n) (Bs n₀ R : Nat) (ao : Option Addr) (cap : Nat) (zs : List SI) (hz : zs.length ≤ 140737488355328) (w : World) (hB : Bs < n₀ ∧ Bs ≠ R) (hn₀ : n₀ ≤ w.heap.size)
    (hBs : w.cell? ⟨Bs, 0, none⟩ = some (.slice ao zs.length cap)) (hcap : zs.length ≤ cap) (hc : ∀ i (hi : i < zs.length), ∃ b o, ao = some ⟨b, o, none⟩ ∧ (b < n₀ ∧ b ≠ R) ∧ ∀ j (hj : j < zs.length), w.cell? ⟨b, o + j, none⟩ = some (.int .i64 zs[j].1)) :
    SeqStopsK F n Try.prog 49 #[.pointer (some ⟨Bs, 0, none⟩)] (fun x : Int × SI => #[Value.int .i64 x.1, Value.int .i64 x.2.1]) (Kq n₀ R) (fun ys => ys = bw zs zs.length) (fun _ => True) zs.length w := fun l J Jx W hW _ _ hY h0 =>
  bw_in F n h8 hro hn l Bs n₀ R ao cap zs hz J Jx hY W hB ((hW.cell (p := ⟨Bs, 0, none⟩) (by simp; omega)).trans hBs) hcap (fun i hi => by
    obtain ⟨b, o, rfl, hb, hcs⟩ := hc i hi
    exact ⟨b, o, rfl, hb, fun j hj => (hW.cell (p := ⟨b, o + j, none⟩) (by have := hb.1; simp; omega)).trans (hcs j hj)⟩) h0
theorem backward_any (ao : Option Addr) (ln cap : Nat) (w : World) : Calls Try.prog 33 #[.slice ao ln cap] w fun e w' => e = .returned (.func (.func 49) #[] #[.pointer (some ⟨w.heap.size, 0, none⟩)]) ∧ w' = w.alloc (.cells #[.slice ao ln cap] 25) := by
  have hmf : ∀ (fn : Fn) (first cap : Array Value) (w : World), (Instr.makeFunc fn first cap).run Try.prog w = .ok (.func fn first cap) w := fun _ _ _ _ => rfl
  go_enter Try.func33, Try.ntmps33
  go_wp2
  go_ret
  exact ⟨rfl, rfl⟩
end Go.Proofs.Ytjcgoohmhbgkiaa
