/- The machine: it shows a value. The machine: it shows a value, whole. -/
import Derived.Test.YtjcgoohmhbgkiaaProg
import Derived.Test.YtjcgoohmhbgkiaaMG
import Derived.Deep.RegionHeld2
import Derived.Deep.RegionLaw
set_option linter.all false
set_option linter.all false
set_option linter.all false
namespace Go.Proofs.Ytjcgoohmhbgkiaa
open Go.RowKit
set_option maxHeartbeats 600000

theorem Val.ind {P : Val → Prop} (h : ∀ v : Val, (∀ u ∈ v.args, P u) → P v) : ∀ v, P v
  | .mk k n l => by
    refine h _ (fun u hu => ?_)
    have hu' : u ∈ l := hu
    have h1 := List.sizeOf_lt_of_mem hu'
    exact Val.ind h u
termination_by v => SizeOf.sizeOf v
decreasing_by all_goals simp_wf; omega
section
variable {c : Ctx} {w w1 : World} {S : List Nat} {steps : Nat} {s : St} {vw vs v' : Value} {sh : List Int} {x : Int}
theorem blk_cell {w w1 : World} {b : Nat} (h : w1.heap[b]? = w.heap[b]?) (j : Nat) : w1.cell? ⟨b, j, none⟩ = w.cell? ⟨b, j, none⟩ := World.cell?_of_block (a := ⟨b, j, none⟩) h
theorem Mch.pushS (h : Mch c w S steps s vw vs sh) (ok : c.Ok) (hp : Pushed c.w1.heap.size 3 w w1 vs v' (sh.length + 1) (sh.map (.int .i64) ++ [.int .i64 x])) (hx : I64 x) (hl : sh.length < 4096) :
    Mch c (w1.setCell ⟨c.M, 8, none⟩ v') (v'.ownBlock.toList ++ S) steps s vw v' (sh ++ [x]) ∧ Ext S w (v'.ownBlock.toList ++ S) (w1.setCell ⟨c.M, 8, none⟩ v') := by
  have hM := h.ltM
  have hb : w1.heap[c.M]? = w.heap[c.M]? := hp.gr.block _ hM (fun e => (h.rowNe ok).2 e.symm)
  have hc := blk_cell hb
  have ho : ∀ j, j ≠ 8 → (w1.setCell ⟨c.M, 8, none⟩ v').cell? ⟨c.M, j, none⟩ = w.cell? ⟨c.M, j, none⟩ := fun j hj => (World.cell?_setCell_other _ _ _ _ (by simp <;> omega)).trans (hc j)
  have hsub : ∀ k ∈ v'.ownBlock.toList ++ S, k ∈ S ∨ w.heap.size ≤ k := fun k hk => by
    rcases hp.sub S k hk with h2 | h2
    · rcases List.mem_append.1 h2 with h3 | h3
      · exact .inl (h.rowS k (by simpa using h3))
      · exact .inl h3
    · exact .inr h2
  have hk1 : Kept S w w1 := ⟨hp.gr.os, hp.gr.tape, hp.gr.output, hp.gr.size, fun k hk hs => hp.gr.block k hk (fun e => hs (h.rowS k e.symm))⟩
  have hk2 : Kept S w (w1.setCell ⟨c.M, 8, none⟩ v') := hk1.trans (kept_setCell h.inS _ _ _)
  have hkM : Kept [c.M] c.w1 (w1.setCell ⟨c.M, 8, none⟩ v') := by
    refine ⟨hk2.os.trans h.kept.os, hk2.tape.trans h.kept.tape, hk2.output.trans h.kept.output, Nat.le_trans h.kept.size hk2.size, fun k hk hs => (hk2.block k (Nat.lt_of_lt_of_le hk h.kept.size) (fun hm => ?_)).trans (h.kept.block k hk hs)⟩
    rcases h.newS k hm with e | e
    · exact hs (by simp [e])
    · omega
  have hnewne : v'.ownBlock ≠ some c.M := fun e => by have := (hp.own.lt _ e).1; have := ok.lt; omega
  refine ⟨⟨hkM, List.mem_append_right _ h.inS, fun k hk => ?_, (ho 0 (by omega)).trans h.c0, (ho 1 (by omega)).trans h.c1, (ho 2 (by omega)).trans h.c2, (ho 3 (by omega)).trans h.c3, (ho 4 (by omega)).trans h.c4, (ho 5 (by omega)).trans h.c5, (ho 6 (by omega)).trans h.c6, (ho 7 (by omega)).trans h.c7,
    World.cell?_setCell_same _ _ _ ((hc 8).trans h.c8), fun j => by rw [World.frozen?_setCell]; exact (World.frozen?_of_block (a := ⟨c.M, j, none⟩) hb).trans (h.fz j), ownsRow_setCell_other (h.ownW.kept hp.gr h.sep) (h.rowNe ok).1 _, ?_, fun k hk => List.mem_append_right _ (h.rowW k hk), fun k hk => List.mem_append_left _ (by rw [hk]; simp), ?_, h.i64W, ?_, h.lenW, by simp; omega⟩, ⟨hk2, fun k hk => List.mem_append_right _ hk, hsub⟩⟩
  · rcases hsub k hk with h2 | h2
    · exact h.newS k h2
    · exact .inr (Nat.le_trans h.kept.size h2)
  · have := ownsRow_setCell_other (a := ⟨c.M, 8, none⟩) hp.own hnewne v'
    simpa using this
  · cases hw : vw.ownBlock with
    | none => exact .inl rfl
    | some k =>
      refine .inr (fun e => ?_)
      rcases hp.new k e.symm with h2 | h2
      · rcases h.sep with h3 | h3
        · rw [hw] at h3; cases h3
        · exact h3 (by rw [hw, h2])
      · have := (h.ownW.lt k hw).2; omega
  · intro y hy
    rcases List.mem_append.1 hy with hy | hy
    · exact h.i64S y hy
    · simp at hy; subst hy; exact hx
theorem Mch.pushW (h : Mch c w S steps s vw vs sh) (ok : c.Ok) (hp : Pushed c.w1.heap.size 3 w w1 vw v' (s.writes.length + 1) (s.writes.map (.int .i64) ++ [.int .i64 x])) (hx : I64 x) (hl : s.writes.length < 4096) :
    Mch c (w1.setCell ⟨c.M, 7, none⟩ v') (v'.ownBlock.toList ++ S) steps { s with writes := s.writes ++ [x] } v' vs sh ∧ Ext S w (v'.ownBlock.toList ++ S) (w1.setCell ⟨c.M, 7, none⟩ v') := by
  have hM := h.ltM
  have hb : w1.heap[c.M]? = w.heap[c.M]? := hp.gr.block _ hM (fun e => (h.rowNe ok).1 e.symm)
  have hc := blk_cell hb
  have ho : ∀ j, j ≠ 7 → (w1.setCell ⟨c.M, 7, none⟩ v').cell? ⟨c.M, j, none⟩ = w.cell? ⟨c.M, j, none⟩ := fun j hj => (World.cell?_setCell_other _ _ _ _ (by simp <;> omega)).trans (hc j)
  have hsub : ∀ k ∈ v'.ownBlock.toList ++ S, k ∈ S ∨ w.heap.size ≤ k := fun k hk => by
    rcases hp.sub S k hk with h2 | h2
    · rcases List.mem_append.1 h2 with h3 | h3
      · exact .inl (h.rowW k (by simpa using h3))
      · exact .inl h3
    · exact .inr h2
  have hk1 : Kept S w w1 := ⟨hp.gr.os, hp.gr.tape, hp.gr.output, hp.gr.size, fun k hk hs => hp.gr.block k hk (fun e => hs (h.rowW k e.symm))⟩
  have hk2 : Kept S w (w1.setCell ⟨c.M, 7, none⟩ v') := hk1.trans (kept_setCell h.inS _ _ _)
  have hkM : Kept [c.M] c.w1 (w1.setCell ⟨c.M, 7, none⟩ v') := by
    refine ⟨hk2.os.trans h.kept.os, hk2.tape.trans h.kept.tape, hk2.output.trans h.kept.output, Nat.le_trans h.kept.size hk2.size, fun k hk hs => (hk2.block k (Nat.lt_of_lt_of_le hk h.kept.size) (fun hm => ?_)).trans (h.kept.block k hk hs)⟩
    rcases h.newS k hm with e | e
    · exact hs (by simp [e])
    · omega
  have hnewne : v'.ownBlock ≠ some c.M := fun e => by have := (hp.own.lt _ e).1; have := ok.lt; omega
  have hsep : vs.ownBlock = none ∨ vs.ownBlock ≠ vw.ownBlock := by
    rcases h.sep with h3 | h3
    · rw [h3]; cases vs.ownBlock <;> simp
    · exact .inr (fun e => h3 e.symm)
  refine ⟨⟨hkM, List.mem_append_right _ h.inS, fun k hk => ?_, (ho 0 (by omega)).trans h.c0, (ho 1 (by omega)).trans h.c1, (ho 2 (by omega)).trans h.c2, (ho 3 (by omega)).trans h.c3, (ho 4 (by omega)).trans h.c4, (ho 5 (by omega)).trans h.c5, (ho 6 (by omega)).trans h.c6, World.cell?_setCell_same _ _ _ ((hc 7).trans h.c7), (ho 8 (by omega)).trans h.c8,
    fun j => by rw [World.frozen?_setCell]; exact (World.frozen?_of_block (a := ⟨c.M, j, none⟩) hb).trans (h.fz j), ?_, ownsRow_setCell_other (h.ownS.kept hp.gr hsep) (h.rowNe ok).2 _, fun k hk => List.mem_append_left _ (by rw [hk]; simp), fun k hk => List.mem_append_right _ (h.rowS k hk), ?_, ?_, h.i64S, by simp; omega, h.lenS⟩, ⟨hk2, fun k hk => List.mem_append_right _ hk, hsub⟩⟩
  · rcases hsub k hk with h2 | h2
    · exact h.newS k h2
    · exact .inr (Nat.le_trans h.kept.size h2)
  · have := ownsRow_setCell_other (a := ⟨c.M, 7, none⟩) hp.own hnewne v'
    simpa using this
  · cases hw : v'.ownBlock with
    | none => exact .inl rfl
    | some k =>
      refine .inr (fun e => ?_)
      rcases hp.new k hw with h2 | h2
      · rcases h.sep with h3 | h3
        · rw [h3] at h2; cases h2
        · exact h3 (by rw [h2, e])
      · have := (h.ownS.lt k e.symm).2; omega
  · intro y hy
    rcases List.mem_append.1 hy with hy | hy
    · exact h.i64W y hy
    · simp at hy; subst hy; exact hx
theorem Pushed.newLt {base : Nat} {e : TypeId} {n : Nat} {xs : List Value} (hp : Pushed base e w w1 vs v' n xs) (hS : ∀ k ∈ S, k < w.heap.size) : ∀ k ∈ v'.ownBlock.toList ++ S, k < w1.heap.size := fun k hk => by
  rcases List.mem_append.1 hk with h | h
  · exact (hp.own.lt k (by simpa using h)).2
  · exact Nat.lt_of_lt_of_le (hS k h) hp.gr.size
end
/-- A call that does not come back: what stands behind it is of no matter. -/
theorem Calls.dies {P : Program} {f : FuncId} {args : Array Value} {w : World} {R R' : Ending → World → Prop} (h : Calls P f args w R) (hr : ∀ e w', R e w' → R' e w') (v0 : Value) (w0 : World) (_ : Hid False → R' (.returned v0) w0) : Calls P f args w R' := h.mono hr
/-- What showing a value leaves. -/
def ShowPost (c : Ctx) (steps : Nat) (s : St) (vw : Value) (S : List Nat) (w : World) (r : (Bool × Int) ⊕ List Int) (e : Ending) (w' : World) : Prop := match r with
  | .inl (st, en) => e = thrown st en ∧ ∃ S' vs' sh', Ext S w S' w' ∧ (∀ k ∈ S', k < w'.heap.size) ∧ Mch c w' S' steps s vw vs' sh'
  | .inr l => e = .returned (.tuple #[]) ∧ ∃ S' vs', Ext S w S' w' ∧ (∀ k ∈ S', k < w'.heap.size) ∧ Mch c w' S' steps s vw vs' l
def ShowSpec (c : Ctx) (steps : Nat) (s : St) (vw : Value) (v : Val) : Prop := ∀ (w : World) (S : List Nat) (vs : Value) (sh : List Int) (p : Value), Mch c w S steps s vw vs sh → (∀ k ∈ S, k < w.heap.size) → RVal c.f.funs.length (memB S w) p v →
  Calls Try.prog 77 #[.pointer (some ⟨c.M, 0, none⟩), p] w (ShowPost c steps s vw S w (showV v sh))
theorem showVs_step {l : List Val} {j : Nat} (hj : j < l.length) (sh : List Int) : showVs (l.drop j) sh = match showV l[j] sh with | .inl e => .inl e | .inr l' => showVs (l.drop (j + 1)) l' := by
  rw [List.drop_eq_getElem_cons hj, showVs]; cases showV l[j] sh <;> rfl
set_option maxRecDepth 100000 in
theorem show_fun {c : Ctx} {steps : Nat} {s : St} {vw : Value} {v : Val} (hk : v.kind = 3) : ShowSpec c steps s vw v := by
  intro w S vs sh p hM hS hr
  have HR := Lib.hid (show ShowPost c steps s vw S w (showV v sh) (thrown true 0) w from by rw [showV_eq, if_pos hk]; exact ⟨rfl, S, vs, sh, Ext.refl _ _, hS, hM⟩)
  obtain ⟨b, ab, ac, rfl, c0, c1, c2, _⟩ := rval_cells hr
  rw [hk] at c0
  clear hr hM hS hk
  go_enter Try.func77, Try.ntmps77
  go_wp2_with (go_at_call 68; refine (want_no _).mono ?_; rintro e w3 ⟨rfl, rfl⟩)
  exact ⟨rfl, HR.out⟩
theorem step_one {P : Program} {w : World} {ops : Array Oper} {o : Oper} {act : Act} {K : Act → World → Prop} {Q : Exit → Act → World → Prop} {E : Prop} (hg : o.guard = none) (h : Oper.wp P o act w K Q) : if Region.wanted o (yielded ops act.tmps) = true then Oper.wp P o act w K Q else E := by
  rw [if_pos (by simp [Region.wanted, hg])]
  exact h
set_option maxRecDepth 100000 in
theorem show_long {c : Ctx} {steps : Nat} {s : St} {vw : Value} {v : Val} (hk : ¬ v.kind = 3) {w : World} {S : List Nat} {vs : Value} {sh : List Int} {p : Value} (hM : Mch c w S steps s vw vs sh) (hS : ∀ k ∈ S, k < w.heap.size) (hr : RVal c.f.funs.length (memB S w) p v) (hl : sh.length = 4096) :
    Calls Try.prog 77 #[.pointer (some ⟨c.M, 0, none⟩), p] w (ShowPost c steps s vw S w (showV v sh)) := by
  have HR := Lib.hid (fun (w' : World) (hb : Below w.heap.size w w') => (show ShowPost c steps s vw S w (showV v sh) (thrown false 4) w' from by rw [showV_eq, if_neg hk, if_pos hl]; exact ⟨rfl, S, vs, sh, Ext.below hb, fun k hk => Nat.lt_of_lt_of_le (hS k hk) hb.size, hM.later hb⟩))
  obtain ⟨b, ab, ac, rfl, c0, c1, c2, _⟩ := rval_cells hr
  have c8 := hM.c8
  have HO := Lib.hid (fun (wx : World) (hb : Below w.heap.size w wx) => more_no (x := v.n) (ownsRow_below hM.ownS hb) hl)
  have hk' : (v.kind != 3) = true := by simpa using hk
  clear hr hM hS hk
  go_enter Try.func77, Try.ntmps77
  go_wp2_with (go_at_call 68; refine (want_ok _).mono ?_; rintro e w3 ⟨rfl, hw3⟩; obtain rfl := hw3.symm)
  go_region_law (first | (refine step_one rfl ?_; go_simp; refine Calls.dies (HO.out _ (Below.refl _ _).drew) (fun e w' h => ?_) (.slice none 0 0) w (fun hf => ?_); (obtain ⟨rfl, rfl⟩ := h; exact ⟨rfl, HR.out _ (Below.refl _ _).drew⟩); have c8' : w.cell? ⟨c.M, 8, none⟩ = some vs := hf.out.elim; have z8' : w.frozen? ⟨c.M, 8, none⟩ = false := hf.out.elim))
  all_goals exact hf.out.elim
end Go.Proofs.Ytjcgoohmhbgkiaa
set_option linter.all false
set_option linter.all false
namespace Go.Proofs.Ytjcgoohmhbgkiaa
open Go.RowKit
set_option maxHeartbeats 600000

theorem rval_out {nf : Nat} {S : List Nat} {w : World} {b : Nat} {v : Val} (h : RVal nf (memB S w) (.pointer (some ⟨b, 0, none⟩)) v) : b ∉ S := by
  obtain ⟨b', ab, ac, e, _, _, _, _, _, h6, _⟩ := h.open
  cases e
  cases h with
  | mk k n args b va vp ik inn hk hc ha hv =>
    have := hc 0 _ rfl
    intro hs
    simp [memB, hs] at this
set_option maxRecDepth 100000 in
theorem show_go {c : Ctx} (ok : c.Ok) {steps : Nat} {s : St} {vw : Value} {v : Val} (ih : ∀ u ∈ v.args, ShowSpec c steps s vw u) (hk : ¬ v.kind = 3) {w : World} {S : List Nat} {vs : Value} {sh : List Int} {p : Value} (hM : Mch c w S steps s vw vs sh) (hS : ∀ k ∈ S, k < w.heap.size) (hr : RVal c.f.funs.length (memB S w) p v) (hl : sh.length < 4096) :
    Calls Try.prog 77 #[.pointer (some ⟨c.M, 0, none⟩), p] w (ShowPost c steps s vw S w (showV v sh)) := by
  obtain ⟨b, ab, ac, rfl, _, hn64, _, h4, h5, h6, h7⟩ := hr.open
  obtain ⟨c0, c1, c2⟩ := h6 w (memB_ag _ _)
  have hbS := rval_out hr
  have c8 := hM.c8
  have z8 := hM.fz 8
  have hbM : ¬ b = c.M := fun e => hbS (e ▸ hM.inS)
  have hMb : ¬ c.M = b := fun e => hbS (e ▸ hM.inS)
  have ltb := World.block_lt_of_cell? w ⟨b, 0, none⟩ c0
  have hrow : Hid (vs.ownBlock ≠ some b) := Lib.hid (fun e => hbS (hM.rowS _ e))
  have hMr := Lib.hid (hM.rowNe ok).2
  have HO := Lib.hid (fun (wx : World) (hb : Below w.heap.size w wx) => more_ok (x := v.n) (ownsRow_below hM.ownS hb) hl (Nat.le_trans hM.kept.size hb.size))
  have hk' : (v.kind != 3) = true := by simpa using hk
  have HV := Lib.hid (show showV v sh = showVs v.args (sh ++ [v.n]) from by rw [showV_eq, if_neg hk, if_neg (by omega)])
  have HM := Lib.hid hM
  have HS := Lib.hid hS
  have H7 := Lib.hid h7
  have IH := Lib.hid ih
  have HOK := Lib.hid ok
  have ltM := hM.ltM
  have PS := Lib.hid (fun (w3 : World) (v' : Value) (hp : Pushed c.w1.heap.size 3 w.drew w3 vs v' (sh.length + 1) (sh.map (.int .i64) ++ [.int .i64 v.n])) => hM.drew.pushS ok hp hn64 hl)
  clear hr hM hS hk h6 h7 ih ok
  go_enter Try.func77, Try.ntmps77
  go_wp2_with (go_at_call 68; refine (want_ok _).mono ?_; rintro e w3 ⟨rfl, hw3⟩; obtain rfl := hw3.symm)
  go_region_law
    (first | (refine step_one rfl ?_; go_simp; refine (HO.out _ (Below.refl _ _).drew).mono ?_; rintro e w3 ⟨v', rfl, hp⟩; dsimp only; obtain ⟨g, cap, rfl⟩ := hp.some; have hB := hp.gr.block b ltb (fun e => hrow.out e.symm); have hMM := hp.gr.block c.M ltM (fun e => hMr.out e.symm); have d1 := (blk_cell hB 1).trans c1; have d2 := (blk_cell hB 2).trans c2; have d8 := (blk_cell hMM 8).trans c8; have e8 := (World.frozen?_of_block (a := ⟨c.M, 8, none⟩) hMM).trans z8; clear hB hMM))
  all_goals
  obtain ⟨hM3, hE3⟩ := PS.out w3 _ hp
  have hS3 := hp.newLt HS.out
  have HM3 := Lib.hid hM3
  have HE3 := Lib.hid hE3
  have HS3 := Lib.hid hS3
  clear hM3 hE3 hS3 PS HO hp
  go_wp2_with fail
  go_loopg [29] (v.args.length) (fun g i wr => ∃ (j : Nat) (S' : List Nat) (vs' : Value) (sh' : List Int), j + g = v.args.length ∧ i = .int .i64 j ∧ Hid (showV v sh = showVs (v.args.drop j) sh') ∧ Hid (Ext S w S' wr) ∧ Hid (∀ k ∈ S', k < wr.heap.size) ∧ Hid (Mch c wr S' steps s vw vs' sh'))
  case atStart => exact ⟨0, _, _, _, by omega, rfl, HV, Lib.hid ((Ext.below (Below.refl _ _).drew).trans HE3.out), Lib.hid (fun k hk => by rw [size_setCell]; exact HS3.out k hk), HM3⟩
  case round =>
    obtain ⟨j, S', vs', sh', hj, rfl, hs, hE, hSl, hMr'⟩ := hrel
    by_cases hlt : j < v.args.length
    · obtain ⟨cb, co, q, rfl, hrq, hcq⟩ := H7.out j hlt
      have cq := hcq wr (fun a u h => memB_ag S' wr a u (hE.out.mem a u h))
      have HQ := Lib.hid (IH.out _ (List.getElem_mem hlt) wr S' vs' sh' q hMr'.out hSl.out (hrq.mono hE.out.mem))
      have st := Lib.hid (hs.out.trans (showVs_step hlt sh'))
      clear hcq hrq
      cases hsv : showV v.args[j] sh' with
      | inl en =>
        obtain ⟨stk, en⟩ := en
        rw [hsv] at HQ st
        have HR := Lib.hid (fun (w' : World) (h : ∃ S'' vs'' sh'', Ext S' wr S'' w' ∧ (∀ k ∈ S'', k < w'.heap.size) ∧ Mch c w' S'' steps s vw vs'' sh'') => (show ShowPost c steps s vw S w (showV v sh) (thrown stk en) w' from by rw [st.out]; obtain ⟨S'', vs'', sh'', h1, h2, h3⟩ := h; exact ⟨rfl, S'', vs'', sh'', hE.out.trans h1, h2, h3⟩))
        go_wp2_with (go_at_call 77; refine HQ.out.mono ?_; rintro e w4 ⟨rfl, h4⟩)
        exact ⟨rfl, HR.out _ h4⟩
      | inr l' =>
        rw [hsv] at HQ st
        go_wp2_with (go_at_call 77; refine HQ.out.mono ?_; rintro e w4 ⟨rfl, S'', vs'', h1, h2, h3⟩)
        go_roundg (v.args.length - (j + 1))
        case measure => omega
        case rel => exact ⟨j + 1, S'', vs'', l', by omega, by go_num, st, Lib.hid (hE.out.trans h1), Lib.hid h2, Lib.hid h3⟩
    · have hd : showVs (v.args.drop j) sh' = .inr sh' := by rw [List.drop_eq_nil_of_le (by omega), showVs]
      have HD := Lib.hid (show ShowPost c steps s vw S w (showV v sh) (.returned (.tuple #[])) wr from by rw [hs.out, hd]; exact ⟨rfl, S', vs', hE.out, hSl.out, hMr'.out⟩)
      clear hd
      go_wp2_with fail
      go_end0
      exact HD.out
theorem show_any {c : Ctx} (ok : c.Ok) (steps : Nat) (s : St) (vw : Value) (v : Val) : ShowSpec c steps s vw v := by
  refine Val.ind (fun v ih => ?_) v
  by_cases hk : v.kind = 3
  · exact show_fun hk
  · intro w S vs sh p hM hS hr
    have hl := hM.lenS
    by_cases h : sh.length = 4096
    · exact show_long hk hM hS hr h
    · exact show_go ok ih hk hM hS hr (by omega)
end Go.Proofs.Ytjcgoohmhbgkiaa
