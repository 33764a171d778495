/- The machine: the deferred function that takes up the stop. -/
import Derived.Test.YtjcgoohmhbgkiaaProg
import Derived.Test.YtjcgoohmhbgkiaaFlP
import Derived.Test.YtjcgoohmhbgkiaaFlR
import Derived.Defers
import Derived.Recover
set_option linter.all false
set_option linter.all false
namespace Go.Proofs.Ytjcgoohmhbgkiaa
open Go.RowKit
set_option maxHeartbeats 1000000

def Caught (B : Nat) (st : Bool) (en : Int) (older : List PanicEntry) (w : World) (e : Ending) (u' : FrameMode) (w' : World) : Prop :=
  e = .returned (.tuple #[]) ∧ u' = .panicking ({ v := stopV st en, recovered := true } :: older) ∧ w'.cell? ⟨B, 0, none⟩ = some (.int .i64 en) ∧ w'.cell? ⟨B, 1, none⟩ = some (.bool st) ∧ Kept [B] w w'
set_option maxRecDepth 20000 in
theorem catch_stop (B : Nat) (st : Bool) (en : Int) (e0 : Int) (s0 : Bool) (older : List PanicEntry) (w : World) (h0 : w.cell? ⟨B, 0, none⟩ = some (.int .i64 e0)) (h1 : w.cell? ⟨B, 1, none⟩ = some (.bool s0)) (hz : ∀ j, w.frozen? ⟨B, j, none⟩ = false) :
    CallsD Try.prog 51 #[.pointer (some ⟨B, 0, none⟩)] (.panicking ({ v := stopV st en, recovered := false } :: older)) w (Caught B st en older w) := by
  have hz0 := hz 0
  have hz1 := hz 1
  have hB := World.block_lt_of_cell? w _ h0
  refine callsD_of_wpS Try.func51 rfl fun c₀ cs hu => ?_
  rw [stopV] at hu
  apply wpS_seq
  apply wpS_region
  simp [wpOpsS, go_sem, recoverD, hu, Try.ntmps51, Exit.thenS]
  refine wpS_of_wp ?_
  rw [show (#[Value.pointer (some ⟨B, 0, none⟩)] ++ (Array.replicate 8 undef).setIfInBounds 2 (Value.iface 103 (Value.agg #[Value.int .i64 en, Value.bool st]))) = #[Value.pointer (some ⟨B, 0, none⟩), undef, undef, Value.iface 103 (Value.agg #[Value.int .i64 en, Value.bool st]), undef, undef, undef, undef, undef] from rfl]
  have hta : ∀ w, (Instr.typeAssert (.iface 103 (.agg #[.int .i64 en, .bool st])) 20 103 true).run Try.prog w = .ok (.tuple #[.agg #[.int .i64 en, .bool st], .bool true]) w := fun w => by kernel_rfl
  go_wp2
  have hb9 := below_box ((w.setCell ⟨B, 0, none⟩ (.int .i64 en)).setCell ⟨B, 1, none⟩ (.bool st)) (.cells #[.int .i64 en, .bool st] 103)
  have hB2 : B < ((w.setCell ⟨B, 0, none⟩ (.int .i64 en)).setCell ⟨B, 1, none⟩ (.bool st)).heap.size := by rw [size_setCell, size_setCell]; exact hB
  have k1 : (w.setCell ⟨B, 0, none⟩ (.int .i64 en)).cell? ⟨B, 1, none⟩ = some (.bool s0) := (World.cell?_setCell_other _ _ _ _ (by simp)).trans h1
  have k0 : (w.setCell ⟨B, 0, none⟩ (.int .i64 en)).cell? ⟨B, 0, none⟩ = some (.int .i64 en) := World.cell?_setCell_same _ _ _ h0
  have r0 := ((hb9.cell hB2).trans (World.cell?_setCell_other _ ⟨B, 1, none⟩ ⟨B, 0, none⟩ _ (by simp))).trans k0
  have r1 := (hb9.cell hB2).trans (World.cell?_setCell_same _ ⟨B, 1, none⟩ _ k1)
  have rk : Kept [B] w (((w.setCell ⟨B, 0, none⟩ (.int .i64 en)).setCell ⟨B, 1, none⟩ (.bool st)).alloc (.cells #[.int .i64 en, .bool st] 103)) :=
    ((kept_setCell (by simp) w 0 _).trans (kept_setCell (by simp) _ 1 _)).trans (Kept.below hb9)
  simp [bodyPostS, results, Try.results51]
  exact ⟨rfl, rfl, r0, r1, rk⟩
end Go.Proofs.Ytjcgoohmhbgkiaa
