/- The machine: it shows a value. The machine: it shows a value, whole. -/
import Derived.Test.YtimljadlfhccpaaProg
import Derived.Test.YtimljadlfhccpaaMG
import Derived.Deep.RegionHeld2
import Derived.Deep.RegionLaw
set_option linter.all false
set_option linter.all false
set_option linter.all false
set_option linter.all false
namespace Go.Proofs.Ytimljadlfhccpaa
open Go.RowKit
set_option maxHeartbeats 600000

theorem Val.ind {P : Val → Prop} (h : ∀ v : Val, (∀ u ∈ v.args, P u) → P v) : ∀ v, P v
  | .mk k n l => by
    refine h _ (fun u hu => ?_)
    have hu' : u ∈ l := hu
    have h1 := List.sizeOf_lt_of_mem hu'
    exact Val.ind h u
termination_by v => SizeOf.sizeOf v
decreasing_by all_goals simp_wf; omega
section
variable {c : Ctx} {w w1 : World} {S : List Nat} {steps : Nat} {s : St} {vw vs v' : Value} {sh : List Int} {x : Int}
theorem blk_cell {w w1 : World} {b : Nat} (h : w1.heap[b]? = w.heap[b]?) (j : Nat) : w1.cell? ⟨b, j, none⟩ = w.cell? ⟨b, j, none⟩ := World.cell?_of_block (a := ⟨b, j, none⟩) h
theorem Mch.pushS (h : Mch c w S steps s vw vs sh) (ok : c.Ok) (hp : Pushed c.w1.heap.size 3 w w1 vs v' (sh.length + 1) (sh.map (.int .i64) ++ [.int .i64 x])) (hx : I64 x) (hl : sh.length < 4096) :
    Mch c (w1.setCell ⟨c.M, 8, none⟩ v') (v'.ownBlock.toList ++ S) steps s vw v' (sh ++ [x]) ∧ Ext S w (v'.ownBlock.toList ++ S) (w1.setCell ⟨c.M, 8, none⟩ v') := by
  have hM := h.ltM
  have hb : w1.heap[c.M]? = w.heap[c.M]? := hp.gr.block _ hM (fun e => (h.rowNe ok).2 e.symm)
  have hc := blk_cell hb
  have ho : ∀ j, j ≠ 8 → (w1.setCell ⟨c.M, 8, none⟩ v').cell? ⟨c.M, j, none⟩ = w.cell? ⟨c.M, j, none⟩ := fun j hj => (World.cell?_setCell_other _ _ _ _ (by simp <;> omega)).trans (hc j)
  have hsub : ∀ k ∈ v'.ownBlock.toList ++ S, k ∈ S ∨ w.heap.size ≤ k := fun k hk => by
    rcases hp.sub S k hk with h2 | h2
    · rcases List.mem_append.1 h2 with h3 | h3
      · exact .inl (h.rowS k (by simpa using h3))
      · exact .inl h3
    · exact .inr h2
  have hk1 : Kept S w w1 := ⟨hp.gr.os, hp.gr.tape, hp.gr.output, hp.gr.size, fun k hk hs => hp.gr.block k hk (fun e => hs (h.rowS k e.symm))⟩
  have hk2 : Kept S w (w1.setCell ⟨c.M, 8, none⟩ v') := hk1.trans (kept_setCell h.inS _ _ _)
  have hkM : Kept [c.M] c.w1 (w1.setCell ⟨c.M, 8, none⟩ v') := by
    refine ⟨hk2.os.trans h.kept.os, hk2.tape.trans h.kept.tape, hk2.output.trans h.kept.output, Nat.le_trans h.kept.size hk2.size, fun k hk hs => (hk2.block k (Nat.lt_of_lt_of_le hk h.kept.size) (fun hm => ?_)).trans (h.kept.block k hk hs)⟩
    rcases h.newS k hm with e | e
    · exact hs (by simp [e])
    · omega
  have hnewne : v'.ownBlock ≠ some c.M := fun e => by have := (hp.own.lt _ e).1; have := ok.lt; omega
  refine ⟨⟨hkM, List.mem_append_right _ h.inS, fun k hk => ?_, (ho 0 (by omega)).trans h.c0, (ho 1 (by omega)).trans h.c1, (ho 2 (by omega)).trans h.c2, (ho 3 (by omega)).trans h.c3, (ho 4 (by omega)).trans h.c4, (ho 5 (by omega)).trans h.c5, (ho 6 (by omega)).trans h.c6, (ho 7 (by omega)).trans h.c7,
    World.cell?_setCell_same _ _ _ ((hc 8).trans h.c8), fun j => by rw [World.frozen?_setCell]; exact (World.frozen?_of_block (a := ⟨c.M, j, none⟩) hb).trans (h.fz j), ownsRow_setCell_other (h.ownW.kept hp.gr h.sep) (h.rowNe ok).1 _, ?_, fun k hk => List.mem_append_right _ (h.rowW k hk), fun k hk => List.mem_append_left _ (by rw [hk]; simp), ?_, h.i64W, ?_, h.lenW, by simp; omega⟩, ⟨hk2, fun k hk => List.mem_append_right _ hk, hsub⟩⟩
  · rcases hsub k hk with h2 | h2
    · exact h.newS k h2
    · exact .inr (Nat.le_trans h.kept.size h2)
  · have := ownsRow_setCell_other (a := ⟨c.M, 8, none⟩) hp.own hnewne v'
    simpa using this
  · cases hw : vw.ownBlock with
    | none => exact .inl rfl
    | some k =>
      refine .inr (fun e => ?_)
      rcases hp.new k e.symm with h2 | h2
      · rcases h.sep with h3 | h3
        · rw [hw] at h3; cases h3
        · exact h3 (by rw [hw, h2])
      · have := (h.ownW.lt k hw).2; omega
  · intro y hy
    rcases List.mem_append.1 hy with hy | hy
    · exact h.i64S y hy
    · simp at hy; subst hy; exact hx
theorem Mch.pushW (h : Mch c w S steps s vw vs sh) (ok : c.Ok) (hp : Pushed c.w1.heap.size 3 w w1 vw v' (s.writes.length + 1) (s.writes.map (.int .i64) ++ [.int .i64 x])) (hx : I64 x) (hl : s.writes.length < 4096) :
    Mch c (w1.setCell ⟨c.M, 7, none⟩ v') (v'.ownBlock.toList ++ S) steps { s with writes := s.writes ++ [x] } v' vs sh ∧ Ext S w (v'.ownBlock.toList ++ S) (w1.setCell ⟨c.M, 7, none⟩ v') := by
  have hM := h.ltM
  have hb : w1.heap[c.M]? = w.heap[c.M]? := hp.gr.block _ hM (fun e => (h.rowNe ok).1 e.symm)
  have hc := blk_cell hb
  have ho : ∀ j, j ≠ 7 → (w1.setCell ⟨c.M, 7, none⟩ v').cell? ⟨c.M, j, none⟩ = w.cell? ⟨c.M, j, none⟩ := fun j hj => (World.cell?_setCell_other _ _ _ _ (by simp <;> omega)).trans (hc j)
  have hsub : ∀ k ∈ v'.ownBlock.toList ++ S, k ∈ S ∨ w.heap.size ≤ k := fun k hk => by
    rcases hp.sub S k hk with h2 | h2
    · rcases List.mem_append.1 h2 with h3 | h3
      · exact .inl (h.rowW k (by simpa using h3))
      · exact .inl h3
    · exact .inr h2
  have hk1 : Kept S w w1 := ⟨hp.gr.os, hp.gr.tape, hp.gr.output, hp.gr.size, fun k hk hs => hp.gr.block k hk (fun e => hs (h.rowW k e.symm))⟩
  have hk2 : Kept S w (w1.setCell ⟨c.M, 7, none⟩ v') := hk1.trans (kept_setCell h.inS _ _ _)
  have hkM : Kept [c.M] c.w1 (w1.setCell ⟨c.M, 7, none⟩ v') := by
    refine ⟨hk2.os.trans h.kept.os, hk2.tape.trans h.kept.tape, hk2.output.trans h.kept.output, Nat.le_trans h.kept.size hk2.size, fun k hk hs => (hk2.block k (Nat.lt_of_lt_of_le hk h.kept.size) (fun hm => ?_)).trans (h.kept.block k hk hs)⟩
    rcases h.newS k hm with e | e
    · exact hs (by simp [e])
    · omega
  have hnewne : v'.ownBlock ≠ some c.M := fun e => by have := (hp.own.lt _ e).1; have := ok.lt; omega
  have hsep : vs.ownBlock = none ∨ vs.ownBlock ≠ vw.ownBlock := by
    rcases h.sep with h3 | h3
    · rw [h3]; cases vs.ownBlock <;> simp
    · exact .inr (fun e => h3 e.symm)
  refine ⟨⟨hkM, List.mem_append_right _ h.inS, fun k hk => ?_, (ho 0 (by omega)).trans h.c0, (ho 1 (by omega)).trans h.c1, (ho 2 (by omega)).trans h.c2, (ho 3 (by omega)).trans h.c3, (ho 4 (by omega)).trans h.c4, (ho 5 (by omega)).trans h.c5, (ho 6 (by omega)).trans h.c6, World.cell?_setCell_same _ _ _ ((hc 7).trans h.c7), (ho 8 (by omega)).trans h.c8,
    fun j => by rw [World.frozen?_setCell]; exact (World.frozen?_of_block (a := ⟨c.M, j, none⟩) hb).trans (h.fz j), ?_, ownsRow_setCell_other (h.ownS.kept hp.gr hsep) (h.rowNe ok).2 _, fun k hk => List.mem_append_left _ (by rw [hk]; simp), fun k hk => List.mem_append_right _ (h.rowS k hk), ?_, ?_, h.i64S, by simp; omega, h.lenS⟩, ⟨hk2, fun k hk => List.mem_append_right _ hk, hsub⟩⟩
  · rcases hsub k hk with h2 | h2
    · exact h.newS k h2
    · exact .inr (Nat.le_trans h.kept.size h2)
  · have := ownsRow_setCell_other (a := ⟨c.M, 7, none⟩) hp.own hnewne v'
    simpa using this
  · cases hw : v'.ownBlock with
    | none => exact .inl rfl
    | some k =>
      refine .inr (fun e => ?_)
      rcases hp.new k hw with h2 | h2
      · rcases h.sep with h3 | h3
        · rw [h3] at h2; cases h2
        · exact h3 (by rw [h2, e])
      · have := (h.ownS.lt k e.symm).2; omega
  · intro y hy
    rcases List.mem_append.1 hy with hy | hy
    · exact h.i64W y hy
    · simp at hy; subst hy; exact hx
theorem Pushed.newLt {base : Nat} {e : TypeId} {n : Nat} {xs : List Value} (hp : Pushed base e w w1 vs v' n xs) (hS : ∀ k ∈ S, k < w.heap.size) : ∀ k ∈ v'.ownBlock.toList ++ S, k < w1.heap.size := fun k hk => by
  rcases List.mem_append.1 hk with h | h
  · exact (hp.own.lt k (by simpa using h)).2
  · exact Nat.lt_of_lt_of_le (hS k h) hp.gr.size
end
/-- A call that does not come back: what stands behind it is of no matter. -/
theorem Calls.dies {P : Program} {f : FuncId} {args : Array Value} {w : World} {R R' : Ending → World → Prop} (h : Calls P f args w R) (hr : ∀ e w', R e w' → R' e w') (v0 : Value) (w0 : World) (_ : Hid False → R' (.returned v0) w0) : Calls P f args w R' := h.mono hr
/-- What showing a value leaves. -/
theorem showVs_step {l : List Val} {j : Nat} (hj : j < l.length) (sh : List Int) : showVs (l.drop j) sh = match showV l[j] sh with | .inl e => .inl e | .inr l' => showVs (l.drop (j + 1)) l' := by
  rw [List.drop_eq_getElem_cons hj, showVs]; cases showV l[j] sh <;> rfl
theorem step_one {P : Program} {w : World} {ops : Array Oper} {o : Oper} {act : Act} {K : Act → World → Prop} {Q : Exit → Act → World → Prop} {E : Prop} (hg : o.guard = none) (h : Oper.wp P o act w K Q) : if Region.wanted o (yielded ops act.tmps) = true then Oper.wp P o act w K Q else E := by
  rw [if_pos (by simp [Region.wanted, hg])]
  exact h
end Go.Proofs.Ytimljadlfhccpaa
set_option linter.all false
set_option linter.all false
namespace Go.Proofs.Ytimljadlfhccpaa
open Go.RowKit
set_option maxHeartbeats 600000

theorem rval_out {nf : Nat} {S : List Nat} {w : World} {b : Nat} {v : Val} (h : RVal nf (memB S w) (.pointer (some ⟨b, 0, none⟩)) v) : b ∉ S := by
  obtain ⟨b', ab, ac, e, _, _, _, _, _, h6, _⟩ := h.open
  cases e
  cases h with
  | mk k n args b va vp ik inn hk hc ha hv =>
    have := hc 0 _ rfl
    intro hs
    simp [memB, hs] at this
end Go.Proofs.Ytimljadlfhccpaa
