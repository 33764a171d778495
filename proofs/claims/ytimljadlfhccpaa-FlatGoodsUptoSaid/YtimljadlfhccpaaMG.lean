/- The machine: a number more of what is told; the values of atoms; an object. The machine: an object. The machine: the frame that a function begins with. The machine: the frame that a function begins with, as a frame. -/
import Derived.Test.YtimljadlfhccpaaProg
import Derived.Test.YtimljadlfhccpaaMF
import Derived.Test.YtimljadlfhccpaaPush
import Derived.StillTailTactics
import Derived.Deep.RegionHeld3
import Derived.Laws.CopyOwn
set_option linter.all false
set_option linter.all false
set_option linter.all false
set_option linter.all false
namespace Go.Proofs.Ytimljadlfhccpaa
open Go.RowKit
set_option maxHeartbeats 600000

theorem Pushed.ofBelow {base : Nat} {e : TypeId} {w w1 w' : World} {v v' : Value} {n : Nat} {xs : List Value} (hb : Below w.heap.size w w1) (h : Pushed base e w1 w' v v' n xs) : Pushed base e w w' v v' n xs :=
  ⟨h.own, ⟨h.gr.os.trans hb.os, h.gr.tape.trans hb.tape, h.gr.output.trans hb.output, Nat.le_trans hb.size h.gr.size, fun k hk hne => (h.gr.block k (Nat.lt_of_lt_of_le hk hb.size) hne).trans (hb.block k hk)⟩,
   fun k hk => (h.new k hk).imp id (fun h2 => Nat.le_trans hb.size h2), h.some⟩
theorem ownsRow_slice {w : World} {base : Nat} {e : TypeId} {size : Nat} {v : Value} {n : Nat} {xs : List Value} (h : w.ownsRow base e size v n xs) : ∃ ao cap, v = .slice ao n cap := by
  rcases h.2 with ⟨rfl, rfl⟩ | ⟨g, cap, cur, rfl, _⟩
  · exact ⟨_, _, rfl⟩
  · exact ⟨_, _, rfl⟩
theorem infoI : (Try.prog.info? 3).map (fun i => (i.zero, i.size, i.bytes)) = some (some (.int .i64 0), 1, 8) := by kernel_rfl
theorem atms_at {m : Mp} {ab : Option Addr} {ac : Nat} {l : List Atm} (h : RAtoms m (.slice ab l.length ac) l) (j : Nat) (hj : j < l.length) : ∃ b o, ab = some ⟨b, o, none⟩ ∧ I64 l[j].n ∧ l.length ≤ ac ∧ ∀ w, Ag m w → w.cell? ⟨b, o + j * 2, none⟩ = some (.bool l[j].var) ∧ w.cell? ⟨b, o + j * 2 + 1, none⟩ = some (.int .i64 l[j].n) := by
  obtain ⟨⟨base, cap, hv, h1, h2, h3⟩, h4⟩ := h
  injection hv with e1 e2 e3
  subst e1; subst e3
  obtain ⟨b, o, hb, hc⟩ := h3 (by omega)
  refine ⟨b, o, hb, h4 _ (List.getElem_mem hj), h1, fun w hm => ?_⟩
  have hcell := (hc j hj).2
  have e : l.getD j ⟨false, 0⟩ = l[j] := by simp [List.getD_eq_getElem?_getD, hj]
  rw [e] at hcell
  exact ⟨hm _ _ (hcell 0 _ rfl), hm _ _ (hcell 1 _ rfl)⟩
/-- Values side by side: the cells ps point to vs. -/
def RVals (nf : Nat) (m : Mp) (ps : List Value) (vs : List Val) : Prop := ps.length = vs.length ∧ ∀ (i : Nat) (p : Value) (v : Val), ps[i]? = some p → vs[i]? = some v → RVal nf m p v
theorem RVals.mono {nf} {m m' : Mp} (h : ∀ a v, m a = some v → m' a = some v) {ps vs} (hr : RVals nf m ps vs) : RVals nf m' ps vs := ⟨hr.1, fun i p v h1 h2 => (hr.2 i p v h1 h2).mono h⟩
theorem RVals.snoc {nf} {m : Mp} {ps vs p v} (hr : RVals nf m ps vs) (h : RVal nf m p v) : RVals nf m (ps ++ [p]) (vs ++ [v]) := by
  refine ⟨by simp [hr.1], fun i q u h1 h2 => ?_⟩
  by_cases hi : i < ps.length
  · rw [List.getElem?_append_left hi] at h1
    rw [List.getElem?_append_left (by rw [← hr.1]; exact hi)] at h2
    exact hr.2 i q u h1 h2
  · have h3 : i = ps.length := by
      have := List.getElem?_eq_some_iff.1 h1
      obtain ⟨h4, _⟩ := this
      simp at h4; omega
    subst h3
    rw [List.getElem?_append_right (Nat.le_refl _)] at h1
    rw [hr.1, List.getElem?_append_right (Nat.le_refl _)] at h2
    simp at h1 h2
    subst h1; subst h2
    exact h
/-- All blocks from n on. -/
theorem ownsRow_below' {w w' : World} {base : Nat} {e : TypeId} {size : Nat} {v : Value} {n : Nat} {xs : List Value} (h : w.ownsRow base e size v n xs) (hb : Below w.heap.size w w') : w'.ownsRow base e size v n xs := ownsRow_below h hb
theorem Pushed.below {base : Nat} {e : TypeId} {w0 w w' : World} {v v' : Value} {n n0 : Nat} {xs xs0 : List Value} (h : Pushed base e w w' v v' n xs) (hb : Below w0.heap.size w0 w) (ho : w.ownsRow base e 1 v n0 xs0) (hbase : w0.heap.size ≤ base) : Below w0.heap.size w0 w' :=
  hb.grown h.gr hb.size (fun k hk => Nat.le_trans hbase (ho.lt k hk).1)
theorem Pushed.kept {base : Nat} {e : TypeId} {w w' : World} {v v' : Value} {n : Nat} {xs : List Value} (h : Pushed base e w w' v v' n xs) (S : List Nat) : Kept (v.ownBlock.toList ++ S) w w' :=
  ⟨h.gr.os, h.gr.tape, h.gr.output, h.gr.size, fun k hk hs => h.gr.block k hk (fun e => hs (by rw [← e]; simp))⟩
theorem Pushed.sub {base : Nat} {e : TypeId} {w w' : World} {v v' : Value} {n : Nat} {xs : List Value} (h : Pushed base e w w' v v' n xs) (S : List Nat) : ∀ k ∈ v'.ownBlock.toList ++ S, k ∈ v.ownBlock.toList ++ S ∨ w.heap.size ≤ k := by
  intro k hk
  rcases List.mem_append.1 hk with hk | hk
  · rcases h.new k (by simpa using hk) with h2 | h2
    · exact .inl (by rw [h2]; simp)
    · exact .inr h2
  · exact .inl (List.mem_append_right _ hk)
theorem RVals.nil (nf : Nat) (m : Mp) : RVals nf m [] [] := ⟨rfl, fun i p v h => by simp at h⟩
theorem pushed_vals {nf : Nat} {S : List Nat} {base : Nat} {e : TypeId} {wr w2 w3 : World} {v v' p : Value} {n j : Nat} {xs ps : List Value} {vals : List Val} {u : Val} (hps : RVals nf (memB (v.ownBlock.toList ++ S) wr) ps (vals.take j)) (hj : vals[j]? = some u)
    (h12 : Below wr.heap.size wr w2) (hp : RVal nf (memB (v.ownBlock.toList ++ S) w2) p u) (h : Pushed base e w2 w3 v v' n xs) : RVals nf (memB (v'.ownBlock.toList ++ S) w3) (ps ++ [p]) (vals.take (j + 1)) := by
  have e : vals.take (j + 1) = vals.take j ++ [u] := by
    obtain ⟨hj', rfl⟩ := List.getElem?_eq_some_iff.1 hj
    exact List.take_succ_eq_append_getElem hj'
  rw [e]
  exact ((hps.mono (Ext.below h12).mem).snoc hp).mono (mem_sub (h.kept S) (h.sub S))
theorem rval_ptr {nf m p v} (h : RVal nf m p v) : ∃ b, p = .pointer (some ⟨b, 0, none⟩) := by cases h; exact ⟨_, rfl⟩
theorem rval_one {nf m p v} (h : RVal nf m p v) : p.oneCell' = true := by cases h; rfl
end Go.Proofs.Ytimljadlfhccpaa
namespace Go.Proofs.Ytimljadlfhccpaa
open Go.RowKit
set_option maxHeartbeats 600000

theorem kept_setCell {S : List Nat} {b : Nat} (h : b ∈ S) (w : World) (j : Nat) (v : Value) : Kept S w (w.setCell ⟨b, j, none⟩ v) :=
  ⟨rfl, rfl, rfl, by simp [World.setCell], fun k _ hs => Below.heap_setCell w ⟨b, j, none⟩ _ k (fun e => hs (by rw [e]; exact h))⟩
theorem size_setCell (w : World) (a : Addr) (v : Value) : (w.setCell a v).heap.size = w.heap.size := by simp [World.setCell]
section
variable {c : Ctx} {w w' : World} {S : List Nat} {steps : Nat} {s : St} {vw vs : Value} {sh : List Int} {F V o i : Nat} {vl : List Int} {env : Env}
theorem Mch.rowNe (h : Mch c w S steps s vw vs sh) (ok : c.Ok) : vw.ownBlock ≠ some c.M ∧ vs.ownBlock ≠ some c.M :=
  ⟨fun e => by have := (h.ownW.lt _ e).1; have := ok.lt; omega, fun e => by have := (h.ownS.lt _ e).1; have := ok.lt; omega⟩
theorem Mch.setSteps (h : Mch c w S steps s vw vs sh) (ok : c.Ok) (n : Nat) : Mch c (w.setCell ⟨c.M, 0, none⟩ (.int .i64 n)) S n s vw vs sh := by
  obtain ⟨r1, r2⟩ := h.rowNe ok
  have ho : ∀ j, j ≠ 0 → (w.setCell ⟨c.M, 0, none⟩ (.int .i64 n)).cell? ⟨c.M, j, none⟩ = w.cell? ⟨c.M, j, none⟩ := fun j hj => World.cell?_setCell_other _ _ _ _ (by simp <;> omega)
  exact ⟨h.kept.trans (kept_setCell (by simp) _ _ _), h.inS, h.newS, World.cell?_setCell_same _ _ _ h.c0, (ho 1 (by omega)).trans h.c1, (ho 2 (by omega)).trans h.c2, (ho 3 (by omega)).trans h.c3, (ho 4 (by omega)).trans h.c4, (ho 5 (by omega)).trans h.c5, (ho 6 (by omega)).trans h.c6, (ho 7 (by omega)).trans h.c7, (ho 8 (by omega)).trans h.c8,
    fun j => by rw [World.frozen?_setCell]; exact h.fz j, ownsRow_setCell_other h.ownW r1 _, ownsRow_setCell_other h.ownS r2 _, h.rowW, h.rowS, h.sep, h.i64W, h.i64S, h.lenW, h.lenS⟩
theorem Mch.setMade (h : Mch c w S steps s vw vs sh) (ok : c.Ok) (n : Nat) : Mch c (w.setCell ⟨c.M, 1, none⟩ (.int .i64 n)) S steps { s with made := n } vw vs sh := by
  obtain ⟨r1, r2⟩ := h.rowNe ok
  have ho : ∀ j, j ≠ 1 → (w.setCell ⟨c.M, 1, none⟩ (.int .i64 n)).cell? ⟨c.M, j, none⟩ = w.cell? ⟨c.M, j, none⟩ := fun j hj => World.cell?_setCell_other _ _ _ _ (by simp <;> omega)
  exact ⟨h.kept.trans (kept_setCell (by simp) _ _ _), h.inS, h.newS, (ho 0 (by omega)).trans h.c0, World.cell?_setCell_same _ _ _ h.c1, (ho 2 (by omega)).trans h.c2, (ho 3 (by omega)).trans h.c3, (ho 4 (by omega)).trans h.c4, (ho 5 (by omega)).trans h.c5, (ho 6 (by omega)).trans h.c6, (ho 7 (by omega)).trans h.c7, (ho 8 (by omega)).trans h.c8,
    fun j => by rw [World.frozen?_setCell]; exact h.fz j, ownsRow_setCell_other h.ownW r1 _, ownsRow_setCell_other h.ownS r2 _, h.rowW, h.rowS, h.sep, h.i64W, h.i64S, h.lenW, h.lenS⟩
theorem Mch.setWork (h : Mch c w S steps s vw vs sh) (ok : c.Ok) (n : Nat) : Mch c (w.setCell ⟨c.M, 2, none⟩ (.int .i64 n)) S steps { s with work := n } vw vs sh := by
  obtain ⟨r1, r2⟩ := h.rowNe ok
  have ho : ∀ j, j ≠ 2 → (w.setCell ⟨c.M, 2, none⟩ (.int .i64 n)).cell? ⟨c.M, j, none⟩ = w.cell? ⟨c.M, j, none⟩ := fun j hj => World.cell?_setCell_other _ _ _ _ (by simp <;> omega)
  exact ⟨h.kept.trans (kept_setCell (by simp) _ _ _), h.inS, h.newS, (ho 0 (by omega)).trans h.c0, (ho 1 (by omega)).trans h.c1, World.cell?_setCell_same _ _ _ h.c2, (ho 3 (by omega)).trans h.c3, (ho 4 (by omega)).trans h.c4, (ho 5 (by omega)).trans h.c5, (ho 6 (by omega)).trans h.c6, (ho 7 (by omega)).trans h.c7, (ho 8 (by omega)).trans h.c8,
    fun j => by rw [World.frozen?_setCell]; exact h.fz j, ownsRow_setCell_other h.ownW r1 _, ownsRow_setCell_other h.ownS r2 _, h.rowW, h.rowS, h.sep, h.i64W, h.i64S, h.lenW, h.lenS⟩
theorem Frm.ltV (h : Frm c w S F V o i vl env) (hS : ∀ k ∈ S, k < w.heap.size) : V < w.heap.size := hS V h.inV
/-- Other blocks of S may turn. -/
theorem Frm.same (h : Frm c w S F V o i vl env) {S' : List Nat} (hk : Kept S w w') (hs : ∀ k ∈ S, k ∈ S') (hn : ∀ k ∈ S', k ∈ S ∨ w.heap.size ≤ k) (hF : w'.heap[F]? = w.heap[F]?) (hV : w'.heap[V]? = w.heap[V]?) : Frm c w' S' F V o i vl env := by
  refine ⟨h.hi, h.vsEq, (World.cell?_of_block (a := ⟨F, 0, none⟩) hF).trans h.c0, (World.cell?_of_block (a := ⟨F, 25, none⟩) hF).trans h.cv, hs _ h.inF, hs _ h.inV, h.neF, h.neV, fun j x hj => ?_, fun j => (World.frozen?_of_block (a := ⟨V, j, none⟩) hV).trans (h.fz j), h.out, h.len⟩
  obtain ⟨p, h1, h2⟩ := h.slot j x hj
  exact ⟨p, (World.cell?_of_block (a := ⟨V, o + j, none⟩) hV).trans h1, h2.mono (mem_sub hk hn)⟩
theorem Frm.setM (h : Frm c w S F V o i vl env) (hM : c.M ∈ S) (j : Nat) (v : Value) : Frm c (w.setCell ⟨c.M, j, none⟩ v) S F V o i vl env :=
  h.same (kept_setCell hM _ _ _) (fun _ h => h) (fun _ h => .inl h) (Below.heap_setCell w ⟨c.M, j, none⟩ _ _ (fun e => h.neF e)) (Below.heap_setCell w ⟨c.M, j, none⟩ _ _ (fun e => h.neV e))
theorem Mch.drew (h : Mch c w S steps s vw vs sh) : Mch c w.drew S steps s vw vs sh := h.later (Below.refl _ _).drew
end
end Go.Proofs.Ytimljadlfhccpaa
namespace Go.Proofs.Ytimljadlfhccpaa
open Go.RowKit
set_option maxHeartbeats 600000

/-- k pointers side by side. -/
def Ptrs (w : World) (ao : Option Addr) (ps : List Value) : Prop := 0 < ps.length → ∃ b ob, ao = some ⟨b, ob, none⟩ ∧ ∀ j p, ps[j]? = some p → w.cell? ⟨b, ob + j, none⟩ = some p
end Go.Proofs.Ytimljadlfhccpaa
namespace Go.Proofs.Ytimljadlfhccpaa
open Go.RowKit
set_option maxHeartbeats 600000

theorem splice_at {α : Type} (L cs : List α) (off j : Nat) (h : off + cs.length ≤ L.length) : (splice L off cs)[off + j]? = if j < cs.length then cs[j]? else L[off + j]? := by
  unfold splice
  rw [List.getElem?_append_right (by simp; omega)]
  have e : off + j - (L.take off).length = j := by simp; omega
  rw [e]
  split
  · rename_i hj; rw [List.getElem?_append_left hj]
  · rename_i hj
    rw [List.getElem?_append_right (by omega), List.getElem?_drop]
    congr 1; omega
theorem splice_before {α : Type} (L cs : List α) (off j : Nat) (h : off + cs.length ≤ L.length) (hj : j < off) : (splice L off cs)[j]? = L[j]? := by
  unfold splice
  rw [List.getElem?_append_left (by simp; omega), List.getElem?_take, if_pos hj]
theorem splice_behind {α : Type} (L cs : List α) (off j : Nat) (h : off + cs.length ≤ L.length) (hj : off + cs.length ≤ j) : (splice L off cs)[j]? = L[j]? := by
  obtain ⟨d, rfl⟩ : ∃ d, j = off + d := ⟨j - off, by omega⟩
  rw [splice_at L cs off d h, if_neg (by omega)]
theorem cell_cells {w : World} {b : Nat} {arr : Array Value} {t : TypeId} {fr : Nat × Nat} (h : w.heap[b]? = some (.cells arr t fr)) (k : Nat) : w.cell? ⟨b, k, none⟩ = arr[k]? := by
  simp [World.cell?, h]
theorem frozen_cells {w : World} {b : Nat} {arr : Array Value} {t : TypeId} (h : w.heap[b]? = some (.cells arr t (0, 0))) (k : Nat) : w.frozen? ⟨b, k, none⟩ = false := by
  simp [World.frozen?, h]
theorem bindEnv_none {ps : List Int} {l : List Val} {x : Int} (h : x ∉ ps) : bindEnv ps l x = none := by
  unfold bindEnv
  rw [Option.map_eq_none_iff, List.find?_eq_none]
  intro p hp
  have := (List.of_mem_zip hp).1
  simp only [beq_iff_eq]
  intro e
  exact h (e ▸ this)
theorem bindEnv_at : ∀ (ps : List Int) (l : List Val), ps.Nodup → ∀ (j : Nat) (x : Int) (v : Val), ps[j]? = some x → l[j]? = some v → bindEnv ps l x = some v
  | [], l, _, j, x, v, h, _ => by simp at h
  | p :: r, [], _, j, x, v, _, h => by simp at h
  | p :: r, u :: l, hn, 0, x, v, h1, h2 => by
    simp at h1 h2
    subst h1; subst h2
    simp [bindEnv]
  | p :: r, u :: l, hn, j + 1, x, v, h1, h2 => by
    rw [List.nodup_cons] at hn
    have h1' : r[j]? = some x := by simpa using h1
    have hne : ¬ p = x := fun e => hn.1 (e ▸ List.mem_of_getElem? h1')
    have := bindEnv_at r l hn.2 j x v h1' (by simpa using h2)
    unfold bindEnv at this ⊢
    simpa [List.zip_cons_cons, List.find?_cons, hne] using this
theorem Mch.more {c : Ctx} {w : World} {S S' : List Nat} {steps : Nat} {s : St} {vw vs : Value} {sh : List Int} (h : Mch c w S steps s vw vs sh) (hs : ∀ k ∈ S, k ∈ S') (hn : ∀ k ∈ S', k ∈ S ∨ c.w1.heap.size ≤ k) : Mch c w S' steps s vw vs sh :=
  ⟨h.kept, hs _ h.inS, fun k hk => (hn k hk).elim (h.newS k) .inr, h.c0, h.c1, h.c2, h.c3, h.c4, h.c5, h.c6, h.c7, h.c8, h.fz, h.ownW, h.ownS, fun k hk => hs _ (h.rowW k hk), fun k hk => hs _ (h.rowS k hk), h.sep, h.i64W, h.i64S, h.lenW, h.lenS⟩
/-- The slots of a new frame. -/
theorem new_slots {c : Ctx} {w w' : World} {S S' : List Nat} {ps : List Value} {vals : List Val} {prm bnd : List Int} (hr : RVals c.f.funs.length (memB S w) ps vals) (hb : Below w.heap.size w w') (hn : ∀ k ∈ S', k ∈ S ∨ w.heap.size ≤ k) (hlen : vals.length = prm.length) (hnd : (prm ++ bnd).Nodup)
    {V o : Nat} (hc : ∀ j, j < (prm ++ bnd).length → w'.cell? ⟨V, o + j, none⟩ = if j < ps.length then ps[j]? else some (.pointer none)) :
    ∀ (j : Nat) (x : Int), (prm ++ bnd)[j]? = some x → ∃ p, w'.cell? ⟨V, o + j, none⟩ = some p ∧ ROpt c.f.funs.length (memB S' w') p (bindEnv prm vals x) := by
  intro j x hx
  rw [List.nodup_append] at hnd
  obtain ⟨hj, _⟩ := List.getElem?_eq_some_iff.1 hx
  rw [hc j hj]
  by_cases hjp : j < ps.length
  · rw [if_pos hjp]
    have hjv : j < vals.length := by rw [← hr.1]; exact hjp
    rw [List.getElem?_append_left (by omega)] at hx
    refine ⟨ps[j], List.getElem?_eq_getElem hjp, ?_⟩
    rw [bindEnv_at prm vals hnd.1 j x vals[j] hx (List.getElem?_eq_getElem hjv)]
    exact (hr.2 j _ _ (List.getElem?_eq_getElem hjp) (List.getElem?_eq_getElem hjv)).mono (mem_sub (Kept.below hb) hn)
  · rw [if_neg hjp]
    have hjv : prm.length ≤ j := by rw [← hlen, ← hr.1]; omega
    rw [List.getElem?_append_right hjv] at hx
    have hm := List.mem_of_getElem? hx
    rw [bindEnv_none (fun h => hnd.2.2 x h x hm rfl)]
    exact ⟨_, rfl, rfl⟩
theorem rvals_one {nf : Nat} {m : Mp} {ps : List Value} {vals : List Val} (hr : RVals nf m ps vals) : ∀ p ∈ ps, p.oneCell' = true := by
  intro p hp
  obtain ⟨j, hj, rfl⟩ := List.getElem_of_mem hp
  have hjv : j < vals.length := by rw [← hr.1]; exact hj
  exact rval_one (hr.2 j _ _ (List.getElem?_eq_getElem hj) (List.getElem?_eq_getElem hjv))
end Go.Proofs.Ytimljadlfhccpaa
