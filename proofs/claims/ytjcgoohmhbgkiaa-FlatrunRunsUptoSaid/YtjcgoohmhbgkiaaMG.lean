/- The machine: a number more of what is told; the values of atoms; an object. The machine: an object. The machine: the frame that a function begins with. The machine: the frame that a function begins with, as a frame. -/
import Derived.Test.YtjcgoohmhbgkiaaProg
import Derived.Test.YtjcgoohmhbgkiaaMF
import Derived.Test.YtjcgoohmhbgkiaaPush
import Derived.StillTailTactics
import Derived.Deep.RegionHeld3
import Derived.Laws.CopyOwn
set_option linter.all false
set_option linter.all false
set_option linter.all false
namespace Go.Proofs.Ytjcgoohmhbgkiaa
open Go.RowKit
set_option maxHeartbeats 600000

theorem Pushed.ofBelow {base : Nat} {e : TypeId} {w w1 w' : World} {v v' : Value} {n : Nat} {xs : List Value} (hb : Below w.heap.size w w1) (h : Pushed base e w1 w' v v' n xs) : Pushed base e w w' v v' n xs :=
  ⟨h.own, ⟨h.gr.os.trans hb.os, h.gr.tape.trans hb.tape, h.gr.output.trans hb.output, Nat.le_trans hb.size h.gr.size, fun k hk hne => (h.gr.block k (Nat.lt_of_lt_of_le hk hb.size) hne).trans (hb.block k hk)⟩,
   fun k hk => (h.new k hk).imp id (fun h2 => Nat.le_trans hb.size h2), h.some⟩
theorem ownsRow_slice {w : World} {base : Nat} {e : TypeId} {size : Nat} {v : Value} {n : Nat} {xs : List Value} (h : w.ownsRow base e size v n xs) : ∃ ao cap, v = .slice ao n cap := by
  rcases h.2 with ⟨rfl, rfl⟩ | ⟨g, cap, cur, rfl, _⟩
  · exact ⟨_, _, rfl⟩
  · exact ⟨_, _, rfl⟩
theorem infoI : (Try.prog.info? 3).map (fun i => (i.zero, i.size, i.bytes)) = some (some (.int .i64 0), 1, 8) := by kernel_rfl
theorem more_ok {base n : Nat} {xs : List Value} {v : Value} {x : Int} {w : World} (hown : w.ownsRow base 3 1 v n xs) (hn : n < 4096) (hbase : base ≤ w.heap.size) :
    Calls Try.prog 76 #[v, .int .i64 x] w fun e w' => ∃ v', e = .returned v' ∧ Pushed base 3 w w' v v' (n + 1) (xs ++ [.int .i64 x]) := by
  obtain ⟨i0, hi, hz0, hz1, hz2⟩ := info_parts infoI
  obtain ⟨ao, cap, rfl⟩ := ownsRow_slice hown
  have hne : ((n : Int) == 4096) = false := by rw [beq_eq_false_iff_ne]; omega
  have HO := Lib.hid hown
  clear hown
  go_enter Try.func76, Try.ntmps76
  go_wp2_with (at_builtin; refine wpList_push rfl (.tmp 10) (.tmp 12) rfl Try.underlying25 hi hz0 hz1 hz2 (by decide) rfl (HO.out.alloc _) (a := ⟨w.heap.size, 0, none⟩) (c := 1) (y := .int .i64 x) rfl (by simp) rfl (by unfold maxLen; omega) (by omega) (by simp; omega) ?_; intro v' w' hp)
  go_ret
  exact ⟨v', rfl, hp.ofBelow (below_box _ _)⟩
theorem more_no {base n : Nat} {xs : List Value} {v : Value} {x : Int} {w : World} (hown : w.ownsRow base 3 1 v n xs) (hn : n = 4096) :
    Calls Try.prog 76 #[v, .int .i64 x] w fun e w' => e = thrown false 4 ∧ w' = w := by
  obtain ⟨ao, cap, rfl⟩ := ownsRow_slice hown
  subst hn
  clear hown
  go_enter Try.func76, Try.ntmps76
  go_wp2_with fail
  exact ⟨rfl, rfl, rfl⟩
theorem infoP : (Try.prog.info? 90).map (fun i => (i.zero, i.size, i.bytes)) = some (some (.pointer none), 1, 8) := by kernel_rfl
theorem atms_at {m : Mp} {ab : Option Addr} {ac : Nat} {l : List Atm} (h : RAtoms m (.slice ab l.length ac) l) (j : Nat) (hj : j < l.length) : ∃ b o, ab = some ⟨b, o, none⟩ ∧ I64 l[j].n ∧ l.length ≤ ac ∧ ∀ w, Ag m w → w.cell? ⟨b, o + j * 2, none⟩ = some (.bool l[j].var) ∧ w.cell? ⟨b, o + j * 2 + 1, none⟩ = some (.int .i64 l[j].n) := by
  obtain ⟨⟨base, cap, hv, h1, h2, h3⟩, h4⟩ := h
  injection hv with e1 e2 e3
  subst e1; subst e3
  obtain ⟨b, o, hb, hc⟩ := h3 (by omega)
  refine ⟨b, o, hb, h4 _ (List.getElem_mem hj), h1, fun w hm => ?_⟩
  have hcell := (hc j hj).2
  have e : l.getD j ⟨false, 0⟩ = l[j] := by simp [List.getD_eq_getElem?_getD, hj]
  rw [e] at hcell
  exact ⟨hm _ _ (hcell 0 _ rfl), hm _ _ (hcell 1 _ rfl)⟩
/-- Values side by side: the cells ps point to vs. -/
def RVals (nf : Nat) (m : Mp) (ps : List Value) (vs : List Val) : Prop := ps.length = vs.length ∧ ∀ (i : Nat) (p : Value) (v : Val), ps[i]? = some p → vs[i]? = some v → RVal nf m p v
theorem RVals.mono {nf} {m m' : Mp} (h : ∀ a v, m a = some v → m' a = some v) {ps vs} (hr : RVals nf m ps vs) : RVals nf m' ps vs := ⟨hr.1, fun i p v h1 h2 => (hr.2 i p v h1 h2).mono h⟩
theorem RVals.snoc {nf} {m : Mp} {ps vs p v} (hr : RVals nf m ps vs) (h : RVal nf m p v) : RVals nf m (ps ++ [p]) (vs ++ [v]) := by
  refine ⟨by simp [hr.1], fun i q u h1 h2 => ?_⟩
  by_cases hi : i < ps.length
  · rw [List.getElem?_append_left hi] at h1
    rw [List.getElem?_append_left (by rw [← hr.1]; exact hi)] at h2
    exact hr.2 i q u h1 h2
  · have h3 : i = ps.length := by
      have := List.getElem?_eq_some_iff.1 h1
      obtain ⟨h4, _⟩ := this
      simp at h4; omega
    subst h3
    rw [List.getElem?_append_right (Nat.le_refl _)] at h1
    rw [hr.1, List.getElem?_append_right (Nat.le_refl _)] at h2
    simp at h1 h2
    subst h1; subst h2
    exact h
/-- All blocks from n on. -/
theorem ownsRow_below' {w w' : World} {base : Nat} {e : TypeId} {size : Nat} {v : Value} {n : Nat} {xs : List Value} (h : w.ownsRow base e size v n xs) (hb : Below w.heap.size w w') : w'.ownsRow base e size v n xs := ownsRow_below h hb
theorem Pushed.below {base : Nat} {e : TypeId} {w0 w w' : World} {v v' : Value} {n n0 : Nat} {xs xs0 : List Value} (h : Pushed base e w w' v v' n xs) (hb : Below w0.heap.size w0 w) (ho : w.ownsRow base e 1 v n0 xs0) (hbase : w0.heap.size ≤ base) : Below w0.heap.size w0 w' :=
  hb.grown h.gr hb.size (fun k hk => Nat.le_trans hbase (ho.lt k hk).1)
theorem Pushed.kept {base : Nat} {e : TypeId} {w w' : World} {v v' : Value} {n : Nat} {xs : List Value} (h : Pushed base e w w' v v' n xs) (S : List Nat) : Kept (v.ownBlock.toList ++ S) w w' :=
  ⟨h.gr.os, h.gr.tape, h.gr.output, h.gr.size, fun k hk hs => h.gr.block k hk (fun e => hs (by rw [← e]; simp))⟩
theorem Pushed.sub {base : Nat} {e : TypeId} {w w' : World} {v v' : Value} {n : Nat} {xs : List Value} (h : Pushed base e w w' v v' n xs) (S : List Nat) : ∀ k ∈ v'.ownBlock.toList ++ S, k ∈ v.ownBlock.toList ++ S ∨ w.heap.size ≤ k := by
  intro k hk
  rcases List.mem_append.1 hk with hk | hk
  · rcases h.new k (by simpa using hk) with h2 | h2
    · exact .inl (by rw [h2]; simp)
    · exact .inr h2
  · exact .inl (List.mem_append_right _ hk)
theorem RVals.nil (nf : Nat) (m : Mp) : RVals nf m [] [] := ⟨rfl, fun i p v h => by simp at h⟩
def Vals (c : Ctx) (w : World) (S : List Nat) (F : Nat) (l : List Atm) (vals : List Val) : Prop := l.length = vals.length ∧ (∀ k ∈ S, k < w.heap.size) ∧ ∀ (j : Nat) (a : Atm) (v : Val), l[j]? = some a → vals[j]? = some v → AtomAt c w S F a v
theorem pushed_vals {nf : Nat} {S : List Nat} {base : Nat} {e : TypeId} {wr w2 w3 : World} {v v' p : Value} {n j : Nat} {xs ps : List Value} {vals : List Val} {u : Val} (hps : RVals nf (memB (v.ownBlock.toList ++ S) wr) ps (vals.take j)) (hj : vals[j]? = some u)
    (h12 : Below wr.heap.size wr w2) (hp : RVal nf (memB (v.ownBlock.toList ++ S) w2) p u) (h : Pushed base e w2 w3 v v' n xs) : RVals nf (memB (v'.ownBlock.toList ++ S) w3) (ps ++ [p]) (vals.take (j + 1)) := by
  have e : vals.take (j + 1) = vals.take j ++ [u] := by
    obtain ⟨hj', rfl⟩ := List.getElem?_eq_some_iff.1 hj
    exact List.take_succ_eq_append_getElem hj'
  rw [e]
  exact ((hps.mono (Ext.below h12).mem).snoc hp).mono (mem_sub (h.kept S) (h.sub S))
theorem rval_ptr {nf m p v} (h : RVal nf m p v) : ∃ b, p = .pointer (some ⟨b, 0, none⟩) := by cases h; exact ⟨_, rfl⟩
theorem rval_one {nf m p v} (h : RVal nf m p v) : p.oneCell' = true := by cases h; rfl
set_option maxRecDepth 100000 in
theorem atoms_any {c : Ctx} {w : World} {S : List Nat} {F : Nat} {m : Mp} {ab : Option Addr} {ac : Nat} {l : List Atm} {vals : List Val} (hl : RAtoms m (.slice ab l.length ac) l) (hm : Ag m w) (hv : Vals c w S F l vals) (hlen : l.length ≤ 1000) :
    Calls Try.prog 67 #[.pointer (some ⟨c.M, 0, none⟩), .slice ab l.length ac, .pointer (some ⟨F, 0, none⟩)] w fun e w' => ∃ v ps, e = .returned v ∧ Below w.heap.size w w' ∧ w'.ownsRow w.heap.size 90 1 v l.length ps ∧ RVals c.f.funs.length (memB S w') ps vals := by
  obtain ⟨i0, hi, hz0, hz1, hz2⟩ := info_parts infoP
  have HL := Lib.hid hl
  have HM := Lib.hid hm
  have HV := Lib.hid hv
  have l2 := hl.len
  clear hl hm hv
  go_enter Try.func67, Try.ntmps67
  go_wp2_with fail
  go_loopg [7, 12] (l.length) (fun g v i wr => ∃ (j : Nat) (ps : List Value), j + g = l.length ∧ i = .int .i64 j ∧ Hid (wr.ownsRow w.heap.size 90 1 v j ps) ∧ Hid (RVals c.f.funs.length (memB (v.ownBlock.toList ++ S) wr) ps (vals.take j)) ∧ Hid (Below w.heap.size w wr))
  case atStart => exact ⟨0, [], by omega, rfl, Lib.hid (World.ownsRow_nil _ _ _ _), Lib.hid (by rw [List.take_zero]; exact RVals.nil _ _), Lib.hid (Below.refl _ _)⟩
  case round =>
    obtain ⟨j, ps, hj, rfl, ho, hr, hb⟩ := hrel
    obtain ⟨ao, cap, rfl⟩ := ownsRow_slice ho.out
    by_cases hlt : j < l.length
    · obtain ⟨b, o, rfl, a1, a2, hc⟩ := atms_at HL.out j hlt
      obtain ⟨c0, c1⟩ := hc wr (HM.out.later hb.out)
      have hlv : j < vals.length := by have := HV.out.1; omega
      have hA := Lib.hid (HV.out.2.2 j l[j] vals[j] (List.getElem?_eq_getElem hlt) (List.getElem?_eq_getElem hlv))
      have hSn : Hid (∀ k ∈ (Value.slice ao j cap).ownBlock.toList ++ S, k ∈ S ∨ w.heap.size ≤ k) := Lib.hid (fun k hk => by
        rcases List.mem_append.1 hk with hk | hk
        · exact .inr (ho.out.lt k (by simpa using hk)).1
        · exact .inl hk)
      have hSl : Hid (∀ k ∈ (Value.slice ao j cap).ownBlock.toList ++ S, k < wr.heap.size) := Lib.hid (fun k hk => by
        rcases List.mem_append.1 hk with hk | hk
        · exact (ho.out.lt k (by simpa using hk)).2
        · exact Nat.lt_of_lt_of_le (HV.out.2.1 k hk) hb.out.size)
      clear hc
      go_wp2_with (first | (go_at_call 74; refine (hA.out.2 _ (bgo hb.out (below_box _ _)) ((Value.slice ao j cap).ownBlock.toList ++ S) hSn.out (fun k hk => Nat.lt_of_lt_of_le (hSl.out k hk) (below_box _ _).size)).mono ?_; rintro e w2 ⟨p, rfl, hb2, hrp⟩; obtain ⟨pb, rfl⟩ := rval_ptr hrp) |
        (at_builtin; refine wpList_push rfl (.tmp 16) (.tmp 21) rfl Try.underlying91 hi hz0 hz1 hz2 (by decide) rfl ((ownsRow_below ho.out (bgo (below_box _ _) hb2)).alloc _) (a := ⟨w2.heap.size, 0, none⟩) (c := 1) (y := .pointer (some ⟨pb, 0, none⟩)) rfl (by simp) (rval_one hrp) (by unfold maxLen; omega) (by omega) (by have := hb.out.size; have := hb2.size; simp at this ⊢; omega) ?_; intro v' w3 hp))
      have HR := Lib.hid (pushed_vals (u := vals[j]) hr.out (List.getElem?_eq_getElem hlv) (bgo (below_box _ _) hb2) hrp (hp.ofBelow (below_box _ _)))
      have HB := Lib.hid ((hp.ofBelow (below_box _ _)).below (bgo hb.out (bgo (below_box _ _) hb2)) (ownsRow_below ho.out (bgo (below_box _ _) hb2)) (Nat.le_refl _))
      have HO := Lib.hid hp.own
      go_roundg (l.length - (j + 1))
      case measure => omega
      case rel => exact ⟨j + 1, _, by omega, by go_num, HO, HR, HB⟩
    · have hjl : j = l.length := by omega
      subst hjl
      go_wp2_with fail
      go_ret
      have hvl := HV.out.1
      refine ⟨_, ps, rfl, hb.out, ho.out, ?_⟩
      have h1 := hr.out
      rw [hvl, List.take_length] at h1
      refine h1.mono (fun a v ha => ?_)
      unfold memB at ha ⊢
      split at ha
      · cases ha
      · rename_i hs
        rw [if_neg (fun hm => hs (List.mem_append_right _ hm))]
        exact ha
end Go.Proofs.Ytjcgoohmhbgkiaa
namespace Go.Proofs.Ytjcgoohmhbgkiaa
open Go.RowKit
set_option maxHeartbeats 600000

theorem kept_setCell {S : List Nat} {b : Nat} (h : b ∈ S) (w : World) (j : Nat) (v : Value) : Kept S w (w.setCell ⟨b, j, none⟩ v) :=
  ⟨rfl, rfl, rfl, by simp [World.setCell], fun k _ hs => Below.heap_setCell w ⟨b, j, none⟩ _ k (fun e => hs (by rw [e]; exact h))⟩
theorem size_setCell (w : World) (a : Addr) (v : Value) : (w.setCell a v).heap.size = w.heap.size := by simp [World.setCell]
section
variable {c : Ctx} {w w' : World} {S : List Nat} {steps : Nat} {s : St} {vw vs : Value} {sh : List Int} {F V o i : Nat} {vl : List Int} {env : Env}
theorem Mch.rowNe (h : Mch c w S steps s vw vs sh) (ok : c.Ok) : vw.ownBlock ≠ some c.M ∧ vs.ownBlock ≠ some c.M :=
  ⟨fun e => by have := (h.ownW.lt _ e).1; have := ok.lt; omega, fun e => by have := (h.ownS.lt _ e).1; have := ok.lt; omega⟩
theorem Mch.setSteps (h : Mch c w S steps s vw vs sh) (ok : c.Ok) (n : Nat) : Mch c (w.setCell ⟨c.M, 0, none⟩ (.int .i64 n)) S n s vw vs sh := by
  obtain ⟨r1, r2⟩ := h.rowNe ok
  have ho : ∀ j, j ≠ 0 → (w.setCell ⟨c.M, 0, none⟩ (.int .i64 n)).cell? ⟨c.M, j, none⟩ = w.cell? ⟨c.M, j, none⟩ := fun j hj => World.cell?_setCell_other _ _ _ _ (by simp <;> omega)
  exact ⟨h.kept.trans (kept_setCell (by simp) _ _ _), h.inS, h.newS, World.cell?_setCell_same _ _ _ h.c0, (ho 1 (by omega)).trans h.c1, (ho 2 (by omega)).trans h.c2, (ho 3 (by omega)).trans h.c3, (ho 4 (by omega)).trans h.c4, (ho 5 (by omega)).trans h.c5, (ho 6 (by omega)).trans h.c6, (ho 7 (by omega)).trans h.c7, (ho 8 (by omega)).trans h.c8,
    fun j => by rw [World.frozen?_setCell]; exact h.fz j, ownsRow_setCell_other h.ownW r1 _, ownsRow_setCell_other h.ownS r2 _, h.rowW, h.rowS, h.sep, h.i64W, h.i64S, h.lenW, h.lenS⟩
theorem Mch.setMade (h : Mch c w S steps s vw vs sh) (ok : c.Ok) (n : Nat) : Mch c (w.setCell ⟨c.M, 1, none⟩ (.int .i64 n)) S steps { s with made := n } vw vs sh := by
  obtain ⟨r1, r2⟩ := h.rowNe ok
  have ho : ∀ j, j ≠ 1 → (w.setCell ⟨c.M, 1, none⟩ (.int .i64 n)).cell? ⟨c.M, j, none⟩ = w.cell? ⟨c.M, j, none⟩ := fun j hj => World.cell?_setCell_other _ _ _ _ (by simp <;> omega)
  exact ⟨h.kept.trans (kept_setCell (by simp) _ _ _), h.inS, h.newS, (ho 0 (by omega)).trans h.c0, World.cell?_setCell_same _ _ _ h.c1, (ho 2 (by omega)).trans h.c2, (ho 3 (by omega)).trans h.c3, (ho 4 (by omega)).trans h.c4, (ho 5 (by omega)).trans h.c5, (ho 6 (by omega)).trans h.c6, (ho 7 (by omega)).trans h.c7, (ho 8 (by omega)).trans h.c8,
    fun j => by rw [World.frozen?_setCell]; exact h.fz j, ownsRow_setCell_other h.ownW r1 _, ownsRow_setCell_other h.ownS r2 _, h.rowW, h.rowS, h.sep, h.i64W, h.i64S, h.lenW, h.lenS⟩
theorem Mch.setWork (h : Mch c w S steps s vw vs sh) (ok : c.Ok) (n : Nat) : Mch c (w.setCell ⟨c.M, 2, none⟩ (.int .i64 n)) S steps { s with work := n } vw vs sh := by
  obtain ⟨r1, r2⟩ := h.rowNe ok
  have ho : ∀ j, j ≠ 2 → (w.setCell ⟨c.M, 2, none⟩ (.int .i64 n)).cell? ⟨c.M, j, none⟩ = w.cell? ⟨c.M, j, none⟩ := fun j hj => World.cell?_setCell_other _ _ _ _ (by simp <;> omega)
  exact ⟨h.kept.trans (kept_setCell (by simp) _ _ _), h.inS, h.newS, (ho 0 (by omega)).trans h.c0, (ho 1 (by omega)).trans h.c1, World.cell?_setCell_same _ _ _ h.c2, (ho 3 (by omega)).trans h.c3, (ho 4 (by omega)).trans h.c4, (ho 5 (by omega)).trans h.c5, (ho 6 (by omega)).trans h.c6, (ho 7 (by omega)).trans h.c7, (ho 8 (by omega)).trans h.c8,
    fun j => by rw [World.frozen?_setCell]; exact h.fz j, ownsRow_setCell_other h.ownW r1 _, ownsRow_setCell_other h.ownS r2 _, h.rowW, h.rowS, h.sep, h.i64W, h.i64S, h.lenW, h.lenS⟩
theorem Frm.ltV (h : Frm c w S F V o i vl env) (hS : ∀ k ∈ S, k < w.heap.size) : V < w.heap.size := hS V h.inV
/-- Other blocks of S may turn. -/
theorem Frm.same (h : Frm c w S F V o i vl env) {S' : List Nat} (hk : Kept S w w') (hs : ∀ k ∈ S, k ∈ S') (hn : ∀ k ∈ S', k ∈ S ∨ w.heap.size ≤ k) (hF : w'.heap[F]? = w.heap[F]?) (hV : w'.heap[V]? = w.heap[V]?) : Frm c w' S' F V o i vl env := by
  refine ⟨h.hi, h.vsEq, (World.cell?_of_block (a := ⟨F, 0, none⟩) hF).trans h.c0, (World.cell?_of_block (a := ⟨F, 25, none⟩) hF).trans h.cv, hs _ h.inF, hs _ h.inV, h.neF, h.neV, fun j x hj => ?_, fun j => (World.frozen?_of_block (a := ⟨V, j, none⟩) hV).trans (h.fz j), h.out, h.len⟩
  obtain ⟨p, h1, h2⟩ := h.slot j x hj
  exact ⟨p, (World.cell?_of_block (a := ⟨V, o + j, none⟩) hV).trans h1, h2.mono (mem_sub hk hn)⟩
theorem Frm.setM (h : Frm c w S F V o i vl env) (hM : c.M ∈ S) (j : Nat) (v : Value) : Frm c (w.setCell ⟨c.M, j, none⟩ v) S F V o i vl env :=
  h.same (kept_setCell hM _ _ _) (fun _ h => h) (fun _ h => .inl h) (Below.heap_setCell w ⟨c.M, j, none⟩ _ _ (fun e => h.neF e)) (Below.heap_setCell w ⟨c.M, j, none⟩ _ _ (fun e => h.neV e))
theorem vals_of (ok : c.Ok) (hM : Mch c w S steps s vw vs sh) (hF : Frm c w S F V o i vl env) (hS : ∀ k ∈ S, k < w.heap.size) {l : List Atm} (hb : ∀ a ∈ l, Bound vl env a) : Vals c w S F l (l.map (atomV env)) := by
  refine ⟨by simp, hS, fun j a v h1 h2 => ?_⟩
  rw [List.getElem?_map, h1] at h2
  simp at h2
  subst h2
  exact atomAt ok hM hF hS a (hb a (List.mem_of_getElem? h1))
theorem Mch.drew (h : Mch c w S steps s vw vs sh) : Mch c w.drew S steps s vw vs sh := h.later (Below.refl _ _).drew
end
/-- An object that has been made. -/
theorem obj_new {nf : Nat} {S : List Nat} {w1 : World} {base : Nat} {v : Value} {ps : List Value} {vals : List Val} {k n : Int} {ln : Nat} (hown : w1.ownsRow base 90 1 v ln ps) (hr : RVals nf (memB S w1) ps vals) (hb : ∀ k ∈ S, k < base) (hln : ln ≤ 1000) (hk : I64 k) (hn : I64 n) (h3 : k = 3 → 0 ≤ n ∧ n < nf) (hS : w1.heap.size ∉ S) (t : TypeId) :
    RVal nf (memB S (w1.alloc (.cells #[.int .i64 k, .int .i64 n, v] t))) (.pointer (some ⟨w1.heap.size, 0, none⟩)) (.mk k n vals) := by
  have hl := hown.1
  have hlv : vals.length = ln := by rw [← hr.1]; omega
  refine val_new nf S w1 k n hk hn h3 hS t _ rfl v vals (fun i => ps.getD i (.pointer none)) ?_ ?_
  · rw [hlv]
    rcases hown.2 with ⟨rfl, rfl⟩ | ⟨g, cap, cur, rfl, hg, hh, h4, h5, h6, h7⟩
    · exact ⟨none, 0, rfl, by omega, by omega, by omega⟩
    · refine ⟨some ⟨g, 0, none⟩, cap, rfl, h4, by omega, fun h0 => ⟨g, 0, rfl, fun i hi => ⟨rfl, fun j u hj => ?_⟩⟩⟩
      match j, hj with
      | 0, hj =>
        simp at hj
        have hps : ps[i]? = some u := by rw [← hj, List.getElem?_eq_getElem (by omega)]; simp
        have := hown.cells rfl i u hps
        rw [show (⟨g, 0, none⟩ : Addr).add i = ⟨g, i, none⟩ from by cases i <;> simp [Addr.add]] at this
        unfold memB
        rw [if_neg (fun hm => by have := hb g hm; omega)]
        simpa using this
      | j + 1, hj => simp at hj
  · intro i a ha
    have hi : i < ps.length := by rw [hr.1]; exact (List.getElem?_eq_some_iff.1 ha).1
    have hps : ps[i]? = some (ps.getD i (.pointer none)) := by rw [List.getElem?_eq_getElem hi]; simp [List.getD_eq_getElem?_getD, hi]
    exact hr.2 i _ a hps ha
set_option maxRecDepth 100000 in
theorem object_any {c : Ctx} {w : World} {S : List Nat} {steps : Nat} {s : St} {vw vs : Value} {sh : List Int} {F V o i : Nat} {vl : List Int} {env : Env} (ok : c.Ok) (hM : Mch c w S steps s vw vs sh) (hF : Frm c w S F V o i vl env) (hS : ∀ k ∈ S, k < w.heap.size)
    {tb to : Nat} {t : Term} (hT : TmAt c.m0 tb to t) (hb : ∀ a ∈ t.args, Bound vl env a) (hlen : t.args.length ≤ 1000) (hmade : s.made ≤ 1000000000000000000) {k : Int} (hk : I64 k) (hn : I64 t.n) (h3 : k = 3 → 0 ≤ t.n ∧ t.n < c.f.funs.length) :
    Calls Try.prog 72 #[.pointer (some ⟨c.M, 0, none⟩), .int .i64 k, .pointer (some ⟨tb, to, none⟩), .pointer (some ⟨F, 0, none⟩)] w fun e w' => ∃ p, e = .returned p ∧ Kept [c.M] w w' ∧
      RVal c.f.funs.length (memB S w') p (.mk k t.n (t.args.map (atomV env))) ∧ Mch c w' S steps { s with made := s.made + (t.args.length + 1) } vw vs sh ∧ Frm c w' S F V o i vl env := by
  obtain ⟨tb', tc, ab, ac, fb, fc, nb, nc, O, hc⟩ := hT.opn
  obtain ⟨q0, q1, q2, q3, q4, q5, q6, q7⟩ := hc w (hM.ag ok)
  have m1 := hM.c1
  have z1 := hM.fz 1
  have HOK := Lib.hid ok
  have HM := Lib.hid hM
  have HF := Lib.hid hF
  have HS := Lib.hid hS
  have HB := Lib.hid hb
  have HC := Lib.hid hc
  have HA := Lib.hid O.args
  have al := O.args.len
  have hadd := Lib.hid (fun (w : World) (h : w.cell? ⟨c.M, 1, none⟩ = some (.int .i64 s.made)) (hz : w.frozen? ⟨c.M, 1, none⟩ = false) => add_any (y := (t.args.length : Int) + 1) h hz (by omega) (by omega) (by omega))
  clear O hc ok hM hF hS hb hT
  go_enter Try.func72, Try.ntmps72
  go_wp2_with fail
  go_still_tail 10, (by kernel_rfl)
  go_wp2_with (go_at_call 53; refine (hadd.out _ (by simpa using m1) (by simpa using z1)).mono ?_; rintro e w2 ⟨rfl, rfl⟩)
  have hM2 := (HM.out.setMade HOK.out (s.made + (t.args.length + 1))).drew
  have hF2 := (HF.out.setM HM.out.inS 1 (.int .i64 ((s.made + (t.args.length + 1) : Nat)))).later (Below.refl _ _).drew (by rw [size_setCell]; exact HF.out.ltV HS.out)
  have hk2 := (kept_setCell (S := [c.M]) (b := c.M) (by simp) w 1 (.int .i64 ((s.made + (t.args.length + 1) : Nat)))).trans (Kept.below (Below.refl _ _).drew)
  have hz2 : w.heap.size = (w.setCell ⟨c.M, 1, none⟩ (.int .i64 ((s.made + (t.args.length + 1) : Nat)))).drew.heap.size := by simp [size_setCell]
  rw [show (((s.made + (t.args.length + 1) : Nat)) : Int) = s.made + (t.args.length + 1) from by omega] at hM2 hF2 hk2 hz2
  generalize (w.setCell ⟨c.M, 1, none⟩ (.int .i64 ((s.made : Int) + (t.args.length + 1)))).drew = w2 at hM2 hF2 hk2 hz2 ⊢
  have hS2 : ∀ k ∈ S, k < w2.heap.size := fun k hk => by rw [← hz2]; exact HS.out k hk
  clear q0 q1 q2 q3 q4 q5 q6 q7 m1 z1 hadd
  obtain ⟨q0, q1, q2, q3, q4, q5, q6, q7⟩ := HC.out w2 (hM2.ag HOK.out)
  have lt2 := World.block_lt_of_cell? w2 ⟨tb, to, none⟩ q0
  have HAt := Lib.hid (fun wx (hb : Below w2.heap.size w2 wx) => atoms_any (w := wx) HA.out ((hM2.later hb).ag HOK.out) (vals_of HOK.out (hM2.later hb) (hF2.later hb (hF2.ltV hS2)) (fun k hk => Nat.lt_of_lt_of_le (hS2 k hk) hb.size) HB.out) hlen)
  have HM2 := Lib.hid hM2
  have HF2 := Lib.hid hF2
  have HK2 := Lib.hid hk2
  have HS2 := Lib.hid hS2
  clear q0 q1 q3 q4 q6 q7 hM2 hF2 hk2 hS2 HM HF HC HA
  go_region_held3 (fun wx => wx.cell? ⟨tb, to + 2, none⟩ = some (.int .i64 t.n) ∧ wx.cell? ⟨tb, to + 5, none⟩ = some (.slice ab t.args.length ac)) (go_keep)
    (first | (go_at_call 67; refine (HAt.out _ (by first | exact Below.refl _ _ | exact (Below.refl _ _).drew)).mono ?_; rintro e w3 ⟨v, ps, rfl, hb3, hown3, hrv3⟩; obtain ⟨ao, cap, rfl⟩ := ownsRow_slice hown3; have r2 := (hb3.cell (p := ⟨tb, to + 2, none⟩) lt2).trans q2; have r5 := (hb3.cell (p := ⟨tb, to + 5, none⟩) lt2).trans q5))
  all_goals go_wp2_with fail
  all_goals
    go_ret
    have hbA := bgo (bgo (Below.refl _ _).drew hb3) (below_box w3 (.cells #[.int .i64 k, .int .i64 t.n, .slice ao t.args.length cap] 93))
    exact ⟨_, rfl, HK2.out.trans (Kept.below hbA), obj_new hown3 hrv3 HS2.out hlen hk hn h3 (fun h => by have := HS2.out _ h; have := hb3.size; simp at this; omega) _, HM2.out.later hbA, HF2.out.later hbA (HF2.out.ltV HS2.out)⟩
end Go.Proofs.Ytjcgoohmhbgkiaa
namespace Go.Proofs.Ytjcgoohmhbgkiaa
open Go.RowKit
set_option maxHeartbeats 600000

theorem bytesP : (Try.prog.info? 90).map (·.size) = some 1 := by kernel_rfl
/-- k pointers side by side. -/
def Ptrs (w : World) (ao : Option Addr) (ps : List Value) : Prop := 0 < ps.length → ∃ b ob, ao = some ⟨b, ob, none⟩ ∧ ∀ j p, ps[j]? = some p → w.cell? ⟨b, ob + j, none⟩ = some p
set_option maxRecDepth 100000 in
theorem begun_few {M VB nf Vc i mb : Nat} {es : List (Int × Value)} {ao : Option Addr} {cap : Nat} {ps : List Value} {w : World} (m5 : w.cell? ⟨M, 5, none⟩ = some (.slice (some ⟨VB, 0, none⟩) nf Vc)) (hv : w.cell? ⟨VB, i, none⟩ = some (.map (some mb))) (hI : IMap w mb es)
    (hi : i < nf) (hc : nf ≤ 4611686018427387904) (hn : es.length ≤ 24) (hk : ps.length ≤ es.length) (hp : Ptrs w ao ps) (h1 : ∀ p ∈ ps, p.oneCell' = true) (hpos : 0 < ps.length) :
    Calls Try.prog 52 #[.pointer (some ⟨M, 0, none⟩), .int .i64 i, .slice ao ps.length cap] w fun e w' => e = .returned (.pointer (some ⟨w.heap.size, 0, none⟩)) ∧ Below w.heap.size w w' ∧
      w'.heap[w.heap.size]? = some (.cells (splice ([.int .i64 i] ++ List.replicate 24 (.pointer none) ++ [.slice (some ⟨w.heap.size, 1, none⟩) es.length es.length]) 1 ps).toArray 129 (0, 0)) := by
  have hi1 : (0 : Int) ≤ (i : Int) := by omega
  have hi2 : (i : Int) < (nf : Int) := by omega
  have hn2 : (es.length : Int) ≤ 24 := by omega
  have hln := fun ty => run_len_I (P := Try.prog) (ty := ty) Try.underlying83 hI
  obtain ⟨b, ob, rfl, hcell⟩ := hp hpos
  have HCELL := Lib.hid hcell
  have HP1 := Lib.hid h1
  clear hp h1 hcell
  obtain ⟨w2, hcp, hg2, hb2⟩ : ∃ w2, (Builtin.copy_ #[91, 91] 3 #[.slice (some ⟨w.heap.size, 1, none⟩) es.length es.length, .slice (some ⟨b, ob, none⟩) ps.length cap]).run Try.prog (w.alloc (.cells #[.int .i64 i, .pointer none, .pointer none, .pointer none, .pointer none, .pointer none, .pointer none, .pointer none, .pointer none, .pointer none, .pointer none, .pointer none, .pointer none, .pointer none, .pointer none, .pointer none, .pointer none, .pointer none, .pointer none, .pointer none, .pointer none, .pointer none, .pointer none, .pointer none, .pointer none, .slice (some ⟨w.heap.size, 1, none⟩) es.length es.length] 129)) = .ok (.int .i64 ps.length) w2 ∧
      Hid (w2.heap[w.heap.size]? = some (.cells (splice ([.int .i64 i] ++ List.replicate 24 (.pointer none) ++ [.slice (some ⟨w.heap.size, 1, none⟩) es.length es.length]) 1 ps).toArray 129 (0, 0))) ∧ Hid (Below w.heap.size w w2) := by
    have hrun := run_copy_row (P := Try.prog) (w.alloc (.cells #[.int .i64 i, .pointer none, .pointer none, .pointer none, .pointer none, .pointer none, .pointer none, .pointer none, .pointer none, .pointer none, .pointer none, .pointer none, .pointer none, .pointer none, .pointer none, .pointer none, .pointer none, .pointer none, .pointer none, .pointer none, .pointer none, .pointer none, .pointer none, .pointer none, .pointer none, .slice (some ⟨w.heap.size, 1, none⟩) es.length es.length] 129)) 91 91 3 90 w.heap.size 1 es.length es.length ⟨b, ob, none⟩ ps.length cap #[.int .i64 i, .pointer none, .pointer none, .pointer none, .pointer none, .pointer none, .pointer none, .pointer none, .pointer none, .pointer none, .pointer none, .pointer none, .pointer none, .pointer none, .pointer none, .pointer none, .pointer none, .pointer none, .pointer none, .pointer none, .pointer none, .pointer none, .pointer none, .pointer none, .pointer none, .slice (some ⟨w.heap.size, 1, none⟩) es.length es.length] 129 ps Try.underlying91 bytesP (heap_alloc_new _ _) (Nat.min_eq_left hk).symm ?_ (by simp; omega) HP1.out
    · exact ⟨_, hrun, setRow_heap (w.alloc (.cells #[.int .i64 i, .pointer none, .pointer none, .pointer none, .pointer none, .pointer none, .pointer none, .pointer none, .pointer none, .pointer none, .pointer none, .pointer none, .pointer none, .pointer none, .pointer none, .pointer none, .pointer none, .pointer none, .pointer none, .pointer none, .pointer none, .pointer none, .pointer none, .pointer none, .pointer none, .slice (some ⟨w.heap.size, 1, none⟩) es.length es.length] 129)) w.heap.size _ _ _ _ (heap_alloc_new _ _), below_setRow (below_box _ _) (Nat.le_refl _) _⟩
    · intro j v hj
      have := HCELL.out j v hj
      rw [show (⟨b, ob, none⟩ : Addr).add j = ⟨b, ob + j, none⟩ from by cases j <;> simp [Addr.add]]
      exact ((below_box w _).cell (p := ⟨b, ob + j, none⟩) (World.block_lt_of_cell? w _ this)).trans this
  go_enter Try.func52, Try.ntmps52
  go_wp2_with fail
  go_ret
  exact ⟨rfl, hb2.out, hg2.out⟩
set_option maxRecDepth 100000 in
theorem begun_many {M VB nf Vc i mb : Nat} {es : List (Int × Value)} {ao : Option Addr} {cap : Nat} {ps : List Value} {w : World} (m5 : w.cell? ⟨M, 5, none⟩ = some (.slice (some ⟨VB, 0, none⟩) nf Vc)) (hv : w.cell? ⟨VB, i, none⟩ = some (.map (some mb))) (hI : IMap w mb es)
    (hi : i < nf) (hc : nf ≤ 4611686018427387904) (hn : ¬ es.length ≤ 24) (hmax : es.length ≤ 1000000) (hk : ps.length ≤ es.length) (hp : Ptrs w ao ps) (h1 : ∀ p ∈ ps, p.oneCell' = true) (hpos : 0 < ps.length) :
    Calls Try.prog 52 #[.pointer (some ⟨M, 0, none⟩), .int .i64 i, .slice ao ps.length cap] w fun e w' => e = .returned (.pointer (some ⟨w.heap.size, 0, none⟩)) ∧ Below w.heap.size w w' ∧
      w'.heap[w.heap.size]? = some (.cells (#[.int .i64 i, .pointer none, .pointer none, .pointer none, .pointer none, .pointer none, .pointer none, .pointer none, .pointer none, .pointer none, .pointer none, .pointer none, .pointer none, .pointer none, .pointer none, .pointer none, .pointer none, .pointer none, .pointer none, .pointer none, .pointer none, .pointer none, .pointer none, .pointer none, .pointer none, .slice none 0 0].setIfInBounds 25 (.slice (some ⟨w.heap.size + 1, 0, none⟩) es.length es.length)) 129 (0, 0)) ∧
      w'.heap[w.heap.size + 1]? = some (.cells (splice (List.replicate es.length (.pointer none)) 0 ps).toArray 90 (0, 0)) := by
  have hi1 : (0 : Int) ≤ (i : Int) := by omega
  have hi2 : (i : Int) < (nf : Int) := by omega
  have hn2 : ¬ (es.length : Int) ≤ 24 := by omega
  have hln := fun ty => run_len_I (P := Try.prog) (ty := ty) Try.underlying83 hI
  obtain ⟨b, ob, rfl, hcell⟩ := hp hpos
  have HCELL := Lib.hid hcell
  have HP1 := Lib.hid h1
  clear hp h1 hcell
  obtain ⟨i0, hi0, hz0, hz1, hz2⟩ := info_parts infoP
  have e0 : (w.alloc (.cells #[.int .i64 i, .pointer none, .pointer none, .pointer none, .pointer none, .pointer none, .pointer none, .pointer none, .pointer none, .pointer none, .pointer none, .pointer none, .pointer none, .pointer none, .pointer none, .pointer none, .pointer none, .pointer none, .pointer none, .pointer none, .pointer none, .pointer none, .pointer none, .pointer none, .pointer none, .slice none 0 0] 129)).heap.size = w.heap.size + 1 := by simp
  obtain ⟨w1, hmk, hown1, hgr1⟩ := run_make_full (P := Try.prog) (w := w.alloc (.cells #[.int .i64 i, .pointer none, .pointer none, .pointer none, .pointer none, .pointer none, .pointer none, .pointer none, .pointer none, .pointer none, .pointer none, .pointer none, .pointer none, .pointer none, .pointer none, .pointer none, .pointer none, .pointer none, .pointer none, .pointer none, .pointer none, .pointer none, .pointer none, .pointer none, .pointer none, .slice none 0 0] 129)) w.heap.size 91 90 i0 (.pointer none) 1 Try.underlying91 hi0 hz0 hz1 .i64 .i64 es.length (by rw [hz2]; omega) (by unfold maxLen; omega) (by simp)
  rw [e0] at hmk hown1
  have hF1 : w1.heap[w.heap.size]? = some (.cells #[.int .i64 i, .pointer none, .pointer none, .pointer none, .pointer none, .pointer none, .pointer none, .pointer none, .pointer none, .pointer none, .pointer none, .pointer none, .pointer none, .pointer none, .pointer none, .pointer none, .pointer none, .pointer none, .pointer none, .pointer none, .pointer none, .pointer none, .pointer none, .pointer none, .pointer none, .slice none 0 0] 129 (0, 0)) := (hgr1.block w.heap.size (by simp) (by simp)).trans (heap_alloc_new _ _)
  have hc1 : w1.cell? ⟨w.heap.size, 25, none⟩ = some (.slice none 0 0) := by simp [World.cell?, hF1]
  have hz1' : w1.frozen? ⟨w.heap.size, 25, none⟩ = false := by simp [World.frozen?, hF1]
  have hV1 : w1.heap[w.heap.size + 1]? = some (.cells (List.replicate es.length (.pointer none)).toArray 90 (0, 0)) := by
    rcases hown1.2 with ⟨h, _⟩ | ⟨g, cap', cur, hv', _, hh, _, _, hsz, htk⟩
    · cases h
    · injection hv' with e1 e2 e3
      injection e1 with e1
      injection e1 with e1
      subst e1; subst e3
      rw [hh]
      rw [List.take_of_length_le (by simpa using Nat.le_of_eq hsz)] at htk
      have e4 : (madeCells (Value.pointer none).cells (es.length * 1)).toList = List.replicate es.length (.pointer none) := by rw [Nat.mul_one]; exact toList_madeCells_one _ _
      rw [e4] at htk
      rw [← htk]
  have hW2 : (w1.setCell ⟨w.heap.size, 25, none⟩ (.slice (some ⟨w.heap.size + 1, 0, none⟩) es.length es.length)).heap[w.heap.size + 1]? = some (.cells (List.replicate es.length (.pointer none)).toArray 90 (0, 0)) :=
    (Below.heap_setCell w1 ⟨w.heap.size, 25, none⟩ _ _ (by simp)).trans hV1
  have hF2 : (w1.setCell ⟨w.heap.size, 25, none⟩ (.slice (some ⟨w.heap.size + 1, 0, none⟩) es.length es.length)).heap[w.heap.size]? = some (.cells (#[.int .i64 i, .pointer none, .pointer none, .pointer none, .pointer none, .pointer none, .pointer none, .pointer none, .pointer none, .pointer none, .pointer none, .pointer none, .pointer none, .pointer none, .pointer none, .pointer none, .pointer none, .pointer none, .pointer none, .pointer none, .pointer none, .pointer none, .pointer none, .pointer none, .pointer none, .slice none 0 0].setIfInBounds 25 (.slice (some ⟨w.heap.size + 1, 0, none⟩) es.length es.length)) 129 (0, 0)) := by
    have hlt : w.heap.size < w1.heap.size := (Array.getElem?_eq_some_iff.1 hF1).1
    rw [Array.getElem?_eq_getElem hlt] at hF1
    injection hF1 with hF1
    show (w1.heap.modify w.heap.size _)[w.heap.size]? = _
    rw [Array.getElem?_eq_getElem (by simpa using hlt), Array.getElem_modify_self, hF1]
    rfl
  have hb1 : Below w.heap.size w w1 := (below_box w (.cells #[.int .i64 i, .pointer none, .pointer none, .pointer none, .pointer none, .pointer none, .pointer none, .pointer none, .pointer none, .pointer none, .pointer none, .pointer none, .pointer none, .pointer none, .pointer none, .pointer none, .pointer none, .pointer none, .pointer none, .pointer none, .pointer none, .pointer none, .pointer none, .pointer none, .pointer none, .slice none 0 0] 129)).grown hgr1 (by simp) (fun k h => by cases h)
  have hbS : Below w.heap.size w (w1.setCell ⟨w.heap.size, 25, none⟩ (.slice (some ⟨w.heap.size + 1, 0, none⟩) es.length es.length)) := hb1.setCell (p := ⟨w.heap.size, 25, none⟩) (Nat.le_refl _) _
  obtain ⟨w2, hcp, hg2, hg3, hb2⟩ : ∃ w2, (Builtin.copy_ #[91, 91] 3 #[.slice (some ⟨w.heap.size + 1, 0, none⟩) es.length es.length, .slice (some ⟨b, ob, none⟩) ps.length cap]).run Try.prog (w1.setCell ⟨w.heap.size, 25, none⟩ (.slice (some ⟨w.heap.size + 1, 0, none⟩) es.length es.length)) = .ok (.int .i64 ps.length) w2 ∧
      Hid (w2.heap[w.heap.size]? = some (.cells (#[.int .i64 i, .pointer none, .pointer none, .pointer none, .pointer none, .pointer none, .pointer none, .pointer none, .pointer none, .pointer none, .pointer none, .pointer none, .pointer none, .pointer none, .pointer none, .pointer none, .pointer none, .pointer none, .pointer none, .pointer none, .pointer none, .pointer none, .pointer none, .pointer none, .pointer none, .slice none 0 0].setIfInBounds 25 (.slice (some ⟨w.heap.size + 1, 0, none⟩) es.length es.length)) 129 (0, 0))) ∧ Hid (w2.heap[w.heap.size + 1]? = some (.cells (splice (List.replicate es.length (.pointer none)) 0 ps).toArray 90 (0, 0))) ∧ Hid (Below w.heap.size w w2) := by
    have hrun := run_copy_row (P := Try.prog) (w1.setCell ⟨w.heap.size, 25, none⟩ (.slice (some ⟨w.heap.size + 1, 0, none⟩) es.length es.length)) 91 91 3 90 (w.heap.size + 1) 0 es.length es.length ⟨b, ob, none⟩ ps.length cap (List.replicate es.length (.pointer none)).toArray 90 ps Try.underlying91 bytesP hW2 (Nat.min_eq_left hk).symm ?_ (by simpa using hk) HP1.out
    · exact ⟨_, hrun, (setRow_other _ _ _ _ (by omega)).trans hF2, setRow_heap _ (w.heap.size + 1) _ _ _ _ hW2, below_setRow hbS (by omega) _⟩
    · intro j v hj
      have := HCELL.out j v hj
      rw [show (⟨b, ob, none⟩ : Addr).add j = ⟨b, ob + j, none⟩ from by cases j <;> simp [Addr.add]]
      exact (hbS.cell (p := ⟨b, ob + j, none⟩) (World.block_lt_of_cell? w _ this)).trans this
  clear hW2 hF2 hb1 hbS hV1 hF1 hown1 hgr1
  go_enter Try.func52, Try.ntmps52
  go_wp2_with fail
  go_ret
  exact ⟨rfl, hb2.out, hg2.out, hg3.out⟩
end Go.Proofs.Ytjcgoohmhbgkiaa
namespace Go.Proofs.Ytjcgoohmhbgkiaa
open Go.RowKit
set_option maxHeartbeats 600000

theorem splice_at {α : Type} (L cs : List α) (off j : Nat) (h : off + cs.length ≤ L.length) : (splice L off cs)[off + j]? = if j < cs.length then cs[j]? else L[off + j]? := by
  unfold splice
  rw [List.getElem?_append_right (by simp; omega)]
  have e : off + j - (L.take off).length = j := by simp; omega
  rw [e]
  split
  · rename_i hj; rw [List.getElem?_append_left hj]
  · rename_i hj
    rw [List.getElem?_append_right (by omega), List.getElem?_drop]
    congr 1; omega
theorem splice_before {α : Type} (L cs : List α) (off j : Nat) (h : off + cs.length ≤ L.length) (hj : j < off) : (splice L off cs)[j]? = L[j]? := by
  unfold splice
  rw [List.getElem?_append_left (by simp; omega), List.getElem?_take, if_pos hj]
theorem splice_behind {α : Type} (L cs : List α) (off j : Nat) (h : off + cs.length ≤ L.length) (hj : off + cs.length ≤ j) : (splice L off cs)[j]? = L[j]? := by
  obtain ⟨d, rfl⟩ : ∃ d, j = off + d := ⟨j - off, by omega⟩
  rw [splice_at L cs off d h, if_neg (by omega)]
theorem cell_cells {w : World} {b : Nat} {arr : Array Value} {t : TypeId} {fr : Nat × Nat} (h : w.heap[b]? = some (.cells arr t fr)) (k : Nat) : w.cell? ⟨b, k, none⟩ = arr[k]? := by
  simp [World.cell?, h]
theorem frozen_cells {w : World} {b : Nat} {arr : Array Value} {t : TypeId} (h : w.heap[b]? = some (.cells arr t (0, 0))) (k : Nat) : w.frozen? ⟨b, k, none⟩ = false := by
  simp [World.frozen?, h]
theorem bindEnv_none {ps : List Int} {l : List Val} {x : Int} (h : x ∉ ps) : bindEnv ps l x = none := by
  unfold bindEnv
  rw [Option.map_eq_none_iff, List.find?_eq_none]
  intro p hp
  have := (List.of_mem_zip hp).1
  simp only [beq_iff_eq]
  intro e
  exact h (e ▸ this)
theorem bindEnv_at : ∀ (ps : List Int) (l : List Val), ps.Nodup → ∀ (j : Nat) (x : Int) (v : Val), ps[j]? = some x → l[j]? = some v → bindEnv ps l x = some v
  | [], l, _, j, x, v, h, _ => by simp at h
  | p :: r, [], _, j, x, v, _, h => by simp at h
  | p :: r, u :: l, hn, 0, x, v, h1, h2 => by
    simp at h1 h2
    subst h1; subst h2
    simp [bindEnv]
  | p :: r, u :: l, hn, j + 1, x, v, h1, h2 => by
    rw [List.nodup_cons] at hn
    have h1' : r[j]? = some x := by simpa using h1
    have hne : ¬ p = x := fun e => hn.1 (e ▸ List.mem_of_getElem? h1')
    have := bindEnv_at r l hn.2 j x v h1' (by simpa using h2)
    unfold bindEnv at this ⊢
    simpa [List.zip_cons_cons, List.find?_cons, hne] using this
theorem Mch.more {c : Ctx} {w : World} {S S' : List Nat} {steps : Nat} {s : St} {vw vs : Value} {sh : List Int} (h : Mch c w S steps s vw vs sh) (hs : ∀ k ∈ S, k ∈ S') (hn : ∀ k ∈ S', k ∈ S ∨ c.w1.heap.size ≤ k) : Mch c w S' steps s vw vs sh :=
  ⟨h.kept, hs _ h.inS, fun k hk => (hn k hk).elim (h.newS k) .inr, h.c0, h.c1, h.c2, h.c3, h.c4, h.c5, h.c6, h.c7, h.c8, h.fz, h.ownW, h.ownS, fun k hk => hs _ (h.rowW k hk), fun k hk => hs _ (h.rowS k hk), h.sep, h.i64W, h.i64S, h.lenW, h.lenS⟩
/-- The slots of a new frame. -/
theorem new_slots {c : Ctx} {w w' : World} {S S' : List Nat} {ps : List Value} {vals : List Val} {prm bnd : List Int} (hr : RVals c.f.funs.length (memB S w) ps vals) (hb : Below w.heap.size w w') (hn : ∀ k ∈ S', k ∈ S ∨ w.heap.size ≤ k) (hlen : vals.length = prm.length) (hnd : (prm ++ bnd).Nodup)
    {V o : Nat} (hc : ∀ j, j < (prm ++ bnd).length → w'.cell? ⟨V, o + j, none⟩ = if j < ps.length then ps[j]? else some (.pointer none)) :
    ∀ (j : Nat) (x : Int), (prm ++ bnd)[j]? = some x → ∃ p, w'.cell? ⟨V, o + j, none⟩ = some p ∧ ROpt c.f.funs.length (memB S' w') p (bindEnv prm vals x) := by
  intro j x hx
  rw [List.nodup_append] at hnd
  obtain ⟨hj, _⟩ := List.getElem?_eq_some_iff.1 hx
  rw [hc j hj]
  by_cases hjp : j < ps.length
  · rw [if_pos hjp]
    have hjv : j < vals.length := by rw [← hr.1]; exact hjp
    rw [List.getElem?_append_left (by omega)] at hx
    refine ⟨ps[j], List.getElem?_eq_getElem hjp, ?_⟩
    rw [bindEnv_at prm vals hnd.1 j x vals[j] hx (List.getElem?_eq_getElem hjv)]
    exact (hr.2 j _ _ (List.getElem?_eq_getElem hjp) (List.getElem?_eq_getElem hjv)).mono (mem_sub (Kept.below hb) hn)
  · rw [if_neg hjp]
    have hjv : prm.length ≤ j := by rw [← hlen, ← hr.1]; omega
    rw [List.getElem?_append_right hjv] at hx
    have hm := List.mem_of_getElem? hx
    rw [bindEnv_none (fun h => hnd.2.2 x h x hm rfl)]
    exact ⟨_, rfl, rfl⟩
theorem rvals_one {nf : Nat} {m : Mp} {ps : List Value} {vals : List Val} (hr : RVals nf m ps vals) : ∀ p ∈ ps, p.oneCell' = true := by
  intro p hp
  obtain ⟨j, hj, rfl⟩ := List.getElem_of_mem hp
  have hjv : j < vals.length := by rw [← hr.1]; exact hj
  exact rval_one (hr.2 j _ _ (List.getElem?_eq_getElem hj) (List.getElem?_eq_getElem hjv))
theorem begun_any {c : Ctx} {w : World} {S : List Nat} {steps : Nat} {s : St} {vw vs : Value} {sh : List Int} (ok : c.Ok) (hM : Mch c w S steps s vw vs sh) {i : Nat} (hi : i < c.f.funs.length) {ao : Option Addr} {cap : Nat} {ps : List Value} {vals : List Val}
    (hp : Ptrs w ao ps) (hr : RVals c.f.funs.length (memB S w) ps vals) (hlen : vals.length = c.f.funs[i].2.1.length) (hpos : 0 < ps.length) (hmax : (placesF c.f.funs[i]).length ≤ 1000000) :
    Calls Try.prog 52 #[.pointer (some ⟨c.M, 0, none⟩), .int .i64 i, .slice ao ps.length cap] w fun e w' => ∃ F V o, e = .returned (.pointer (some ⟨F, 0, none⟩)) ∧ Below w.heap.size w w' ∧ w.heap.size ≤ F ∧ w.heap.size ≤ V ∧ F < w'.heap.size ∧ V < w'.heap.size ∧
      Frm c w' (F :: V :: S) F V o i (placesF c.f.funs[i]) (bindEnv c.f.funs[i].2.1 vals) := by
  obtain ⟨h1, h2⟩ := hM.varsAt ok hi
  have hnd := (ok.vars i hi).2.2.2
  have hle := ok.vle
  have hcap := ok.cap
  have hM0 := hM.ltM
  have hL : (numbered (placesF c.f.funs[i])).length = (placesF c.f.funs[i]).length := numbered_length _
  have hk : ps.length ≤ (placesF c.f.funs[i]).length := by
    rw [hr.1, hlen, placesF, List.length_append]; omega
  by_cases hn : (placesF c.f.funs[i]).length ≤ 24
  · refine (begun_few hM.c5 h1 h2 hi (by omega) (by rw [hL]; exact hn) (by rw [hL]; exact hk) hp (rvals_one hr) hpos).mono ?_
    rintro e w' ⟨rfl, hb, hF⟩
    rw [hL] at hF
    have hlF : w.heap.size < w'.heap.size := (Array.getElem?_eq_some_iff.1 hF).1
    have hl26 : 1 + ps.length ≤ ([Value.int .i64 i] ++ List.replicate 24 (Value.pointer none) ++ [Value.slice (some ⟨w.heap.size, 1, none⟩) (placesF c.f.funs[i]).length (placesF c.f.funs[i]).length]).length := by simp; omega
    have hcell := fun k => cell_cells hF k
    refine ⟨w.heap.size, w.heap.size, 1, rfl, hb, Nat.le_refl _, Nat.le_refl _, hlF, hlF, hi, fun _ => rfl, ?_, ?_, by simp, by simp, by omega, by omega, ?_, frozen_cells hF, .inr ⟨rfl, hn⟩, hmax⟩
    · rw [hcell, List.getElem?_toArray, splice_before _ _ _ _ hl26 (by omega)]; rfl
    · rw [hcell, List.getElem?_toArray, splice_behind _ _ _ _ hl26 (by omega)]; rfl
    · refine new_slots (S' := w.heap.size :: w.heap.size :: S) hr hb (fun k hk => ?_) hlen hnd (fun j hj => ?_)
      · simp at hk; rcases hk with rfl | hk
        · exact .inr (Nat.le_refl _)
        · exact .inl hk
      · have hj' : j < (placesF c.f.funs[i]).length := hj
        rw [hcell, List.getElem?_toArray, splice_at _ _ _ _ hl26]
        split
        · rfl
        · rw [List.getElem?_append_left (by simp; omega), List.getElem?_append_right (by simp), show 1 + j - ([Value.int .i64 i] : List Value).length = j from by simp, List.getElem?_replicate, if_pos (by omega)]
  · refine (begun_many hM.c5 h1 h2 hi (by omega) (by rw [hL]; exact hn) (by rw [hL]; exact hmax) (by rw [hL]; exact hk) hp (rvals_one hr) hpos).mono ?_
    rintro e w' ⟨rfl, hb, hF, hV⟩
    rw [hL] at hF hV
    have hlF : w.heap.size < w'.heap.size := (Array.getElem?_eq_some_iff.1 hF).1
    have hlV : w.heap.size + 1 < w'.heap.size := (Array.getElem?_eq_some_iff.1 hV).1
    have hl : 0 + ps.length ≤ (List.replicate (placesF c.f.funs[i]).length (Value.pointer none)).length := by simp; omega
    have hcF := fun k => cell_cells hF k
    have hcV := fun k => cell_cells hV k
    refine ⟨w.heap.size, w.heap.size + 1, 0, rfl, hb, Nat.le_refl _, by omega, hlF, hlV, hi, fun _ => rfl, ?_, ?_, by simp, by simp, by omega, by omega, ?_, frozen_cells hV, .inl (by omega), hmax⟩
    · rw [hcF]; rfl
    · rw [hcF]; rfl
    · refine new_slots (S' := w.heap.size :: (w.heap.size + 1) :: S) hr hb (fun k hk => ?_) hlen hnd (fun j hj => ?_)
      · simp at hk; rcases hk with rfl | rfl | hk
        · exact .inr (Nat.le_refl _)
        · exact .inr (by omega)
        · exact .inl hk
      · have hj' : j < (placesF c.f.funs[i]).length := hj
        rw [hcV, List.getElem?_toArray, splice_at _ _ _ _ hl]
        split
        · rfl
        · rw [Nat.zero_add, List.getElem?_replicate, if_pos hj']
end Go.Proofs.Ytjcgoohmhbgkiaa
