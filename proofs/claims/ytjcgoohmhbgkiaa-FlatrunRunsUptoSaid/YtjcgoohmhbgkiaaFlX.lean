/- The machine's run: what it does. -/
import Derived.Test.YtjcgoohmhbgkiaaProg
import Derived.Test.YtjcgoohmhbgkiaaFlW
import Derived.Deep.RegionLaw
set_option linter.all false
set_option linter.all false
set_option linter.all false
namespace Go.Proofs.Ytjcgoohmhbgkiaa
open Go.RowKit Go.Shelf
attribute [local go_sem] Oper.semAt_some
set_option maxHeartbeats 4000000

def InG (nf B : Nat) (W0 : World) (s : List Int) (W : World) : Prop := ((∃ p, W.cell? ⟨B, 0, none⟩ = some p ∧ RVal nf (memB [B] W) p (inputV s)) ∧ W.frozen? ⟨B, 0, none⟩ = false) ∧ Kept [B] W0 W
theorem InG.own {nf B : Nat} {W0 : World} : ∀ s W W' row, InG nf B W0 s W → W.grownBy W' row → (∀ r, row = some r → W0.heap.size ≤ r ∧ ∃ o : Obj, W.heap[r]? = some o ∧ o.isCells = false) → InG nf B W0 s W' := by
  rintro s W W' row ⟨⟨⟨p, h1, h2⟩, h3⟩, h4⟩ hg hr
  have hr' := fun r e => (hr r e).2
  refine ⟨⟨⟨p, cell_kept h1 hg hr', rval_grown hg hr' h2⟩, (frozen_kept h1 hg hr').trans h3⟩, hg.os.trans h4.os, hg.tape.trans h4.tape, hg.output.trans h4.output, Nat.le_trans h4.size hg.size, fun k hk hs => (hg.block k (Nat.lt_of_lt_of_le hk h4.size) (fun e => by have := (hr k e.symm).1; omega)).trans (h4.block k hk hs)⟩
theorem in_round {nf R : Nat} {W0 W : World} {s : List Int} {y : Int} {pb : Nat} (c9 : W.cell? ⟨R, 0, none⟩ = some (.pointer (some ⟨pb, 0, none⟩))) (hp : RVal nf (memB [R] W) (.pointer (some ⟨pb, 0, none⟩)) (inputV s)) (z9 : W.frozen? ⟨R, 0, none⟩ = false) (hk : Kept [R] W0 W) (t1 t2 : TypeId) {W' : World}
    (e : W' = ((((W.setCell ⟨R, 0, none⟩ (.pointer (some ⟨W.heap.size + 1 + 1, 0, none⟩))).alloc (.cells #[.int .i64 1, .int .i64 (w31 y), .slice none 0 0] t1)).alloc (.cells #[.pointer (some ⟨W.heap.size, 0, none⟩), .pointer (some ⟨pb, 0, none⟩)] t2)).alloc (.cells #[.int .i64 2, .int .i64 1, .slice (some ⟨W.heap.size + 1, 0, none⟩) 2 2] t1)).drew) :
    KeepsFrom W0.heap.size W W' ∧ Kq W0.heap.size R W W' ∧ InG nf R W0 (y :: s) W' := by
  subst e
  obtain ⟨Wc, hWc⟩ : ∃ Wc, W.setCell ⟨R, 0, none⟩ (.pointer (some ⟨W.heap.size + 1 + 1, 0, none⟩)) = Wc := ⟨_, rfl⟩
  have hsz : Wc.heap.size = W.heap.size := by rw [← hWc]; exact size_setCell _ _ _
  have hR : R < W.heap.size := World.block_lt_of_cell? W _ c9
  have hk1 : Kept [R] W Wc := by rw [← hWc]; exact kept_setCell (by simp) _ _ _
  have hp1 : RVal nf (memB [R] Wc) (.pointer (some ⟨pb, 0, none⟩)) (inputV s) := hp.mono (Ext.of hk1).mem
  have hc1 : Wc.cell? ⟨R, 0, none⟩ = some (.pointer (some ⟨Wc.heap.size + 1 + 1, 0, none⟩)) := by rw [← hWc, size_setCell]; exact World.cell?_setCell_same _ _ _ c9
  have hz1 : Wc.frozen? ⟨R, 0, none⟩ = false := by rw [← hWc, World.frozen?_setCell]; exact z9
  have ho1 : KeepsOthers W Wc := by rw [← hWc]; exact KeepsOthers.setCell _ _ _
  rw [hWc, ← hsz]
  have hn : I64 (w31 y) := by have := w31_lo y; have := w31_hi y; unfold I64; omega
  have hv := cons_new hp1 (by omega) (w31 y) hn t1 t2
  have hb : Below Wc.heap.size Wc ((((Wc.alloc (.cells #[.int .i64 1, .int .i64 (w31 y), .slice none 0 0] t1)).alloc (.cells #[.pointer (some ⟨Wc.heap.size, 0, none⟩), .pointer (some ⟨pb, 0, none⟩)] t2)).alloc (.cells #[.int .i64 2, .int .i64 1, .slice (some ⟨Wc.heap.size + 1, 0, none⟩) 2 2] t1)).drew) :=
    (bgo (bgo (below_box _ _) (below_box _ _)) (below_box _ _)).drew
  have hlt : R < Wc.heap.size := by omega
  refine ⟨((((ho1.trans (KeepsOthers.alloc _ _)).trans (KeepsOthers.alloc _ _)).trans (KeepsOthers.alloc _ _)).trans (KeepsOthers.drew _)).from _, fun k hk0 hne => ?_, ⟨⟨_, (hb.cell hlt).trans hc1, hv⟩, frozen_below hb hlt hz1⟩, hk.trans (hk1.trans (Kept.below hb))⟩
  have hkl : k < W.heap.size := Nat.lt_of_lt_of_le hk0 hk.size
  exact (hb.block k (by omega)).trans (hk1.block k hkl (by simpa using hne))
theorem Pushed.kept0 {base : Nat} {e : TypeId} {w w' : World} {v v' : Value} {n : Nat} {xs : List Value} (h : Pushed base e w w' v v' n xs) : Kept v.ownBlock.toList w w' := ⟨h.gr.os, h.gr.tape, h.gr.output, h.gr.size, fun k hk hn => h.gr.block k hk (fun e => hn (by rw [← e]; simp))⟩
theorem infoMp : (Try.prog.info? 83).map (fun i => (i.zero, i.size, i.bytes)) = some (some (.map none), 1, 8) := by kernel_rfl
/-- The machine's block: its cells. -/
def mch0 (fb : Option Addr) (nf fc : Nat) (main fuel : Int) : List Value := [.int .i64 0, .int .i64 0, .int .i64 0, .slice fb nf fc, .int .i64 main, .slice none 0 0, .int .i64 fuel, .slice none 0 0, .slice none 0 0]
/-- The variables' places, for the first j functions. -/
structure VarsIn (f : Flat) (cs : List Value) (M : Nat) (WM wr : World) (j : Nat) (vv : Value) : Prop where
  kept : Kept [M] WM wr
  ltM : M < WM.heap.size
  m5 : wr.cell? ⟨M, 5, none⟩ = some vv
  cs : ∀ k v, k ≠ 5 → cs[k]? = some v → wr.cell? ⟨M, k, none⟩ = some v
  fz : ∀ k, wr.frozen? ⟨M, k, none⟩ = false
  row : ∃ ms : List Value, wr.ownsRow WM.heap.size 83 1 vv j ms ∧ ∀ i (h : i < j), ∃ mb, ms[i]? = some (.map (some mb)) ∧ (∀ hi : i < f.funs.length, IMap wr mb (numbered (placesF f.funs[i]))) ∧ WM.heap.size ≤ mb ∧ vv.ownBlock ≠ some mb
theorem VarsIn.start {f : Flat} {cs : List Value} {W : World} (hc5 : cs[5]? = some (.slice none 0 0)) (t : TypeId) {M : Nat} (hM : M = W.heap.size) {WM : World} (hW : WM = W.alloc (.cells cs.toArray t)) : VarsIn f cs M WM WM 0 (.slice none 0 0) := by
  subst hM; subst hW
  have hb := BoxAt.new W cs t
  exact ⟨Kept.refl _ _, hb.1, hb.2 5 _ hc5, fun k v _ h => hb.2 k v h, fun k => frozen_cells (arr := cs.toArray) (t := t) (by rw [heap_alloc_new]) k, [], World.ownsRow_nil _ _ _ _, fun i h => by omega⟩
/-- One function's places more. -/
theorem VarsIn.next {f : Flat} {cs : List Value} {M : Nat} {WM wr w1 w2 w3 : World} {j : Nat} {vv v' : Value} (h : VarsIn f cs M WM wr j vv) (hj : j < f.funs.length) (hb1 : Below wr.heap.size wr w1) {mb : Nat} (hI : IMap w1 mb (numbered (placesF f.funs[j]))) (hmb : wr.heap.size ≤ mb) (hb2 : Below w1.heap.size w1 w2) {ms : List Value}
    (hms : wr.ownsRow WM.heap.size 83 1 vv j ms) (hmsr : ∀ i (h : i < j), ∃ mb, ms[i]? = some (.map (some mb)) ∧ (∀ hi : i < f.funs.length, IMap wr mb (numbered (placesF f.funs[i]))) ∧ WM.heap.size ≤ mb ∧ vv.ownBlock ≠ some mb)
    (hp : Pushed WM.heap.size 83 w2 w3 vv v' (j + 1) (ms ++ [.map (some mb)])) {w4 : World} (e : w4 = w3.setCell ⟨M, 5, none⟩ v') : VarsIn f cs M WM w4 (j + 1) v' := by
  subst e
  have hb := bgo hb1 hb2
  have hMr := Nat.lt_of_lt_of_le h.ltM h.kept.size
  have hown := fun k (hk : vv.ownBlock = some k) => hms.lt k hk
  have hMo : vv.ownBlock ≠ some M := fun e => by have := (hown M e).1; have := h.ltM; omega
  have hmo : vv.ownBlock ≠ some mb := fun e => by have := (hown mb e).2; omega
  have hI2 := hI.below hb2
  have hM2 := Nat.lt_of_lt_of_le hMr hb.size
  have hMb := hp.gr.block M hM2 (fun e => hMo e.symm)
  have hc3 : ∀ k v, wr.cell? ⟨M, k, none⟩ = some v → w3.cell? ⟨M, k, none⟩ = some v := fun k v hv => (blk_cell hMb k).trans ((hb.cell hMr).trans hv)
  have hzk : ∀ k, w3.frozen? ⟨M, k, none⟩ = false := fun k => (World.frozen?_of_block (a := ⟨M, k, none⟩) hMb).trans (frozen_below hb hMr (h.fz k))
  have hk4 : Kept [M] w3 (w3.setCell ⟨M, 5, none⟩ v') := kept_setCell (by simp) w3 5 v'
  have hlenms : ms.length = j := by have := hms.1; omega
  have hvo : ∀ k, v'.ownBlock = some k → WM.heap.size ≤ k ∧ k < w3.heap.size := fun k hk => hp.own.lt k hk
  have hMo' : v'.ownBlock ≠ some M := fun e => by have := (hvo M e).1; have := h.ltM; omega
  refine ⟨?_, h.ltM, World.cell?_setCell_same _ _ _ (hc3 5 _ h.m5), fun k v hk hv => ?_, fun k => by rw [World.frozen?_setCell]; exact hzk k, ms ++ [.map (some mb)], ownsRow_setCell_other hp.own hMo' _, fun i hi => ?_⟩
  · refine ⟨hk4.os.trans (hp.gr.os.trans (hb.os.trans h.kept.os)), hk4.tape.trans (hp.gr.tape.trans (hb.tape.trans h.kept.tape)), hk4.output.trans (hp.gr.output.trans (hb.output.trans h.kept.output)), Nat.le_trans h.kept.size (Nat.le_trans hb.size (Nat.le_trans hp.gr.size hk4.size)), fun k hk hs => ?_⟩
    have hkr := Nat.lt_of_lt_of_le hk h.kept.size
    exact (hk4.block k (Nat.lt_of_lt_of_le (Nat.lt_of_lt_of_le hkr hb.size) hp.gr.size) hs).trans ((hp.gr.block k (Nat.lt_of_lt_of_le hkr hb.size) (fun e => by have := (hown k e.symm).1; omega)).trans ((hb.block k hkr).trans (h.kept.block k hk hs)))
  · exact (World.cell?_setCell_other _ _ _ _ (fun e => hk (by have : 5 = k := congrArg Addr.off e; omega))).trans (hc3 k v (h.cs k v hk hv))
  · have hset : ∀ b es, b ≠ M → IMap w3 b es → IMap (w3.setCell ⟨M, 5, none⟩ v') b es := fun b es hb' hI => hI.same (Below.heap_setCell w3 ⟨M, 5, none⟩ _ b hb')
    by_cases hij : i < j
    · obtain ⟨m, h1, h2, h3, h4⟩ := hmsr i hij
      refine ⟨m, by rw [List.getElem?_append_left (by omega)]; exact h1, fun hi' => ?_, h3, fun e => ?_⟩
      · have hm := h2 hi'
        exact hset _ _ (by have := h.ltM; omega) ((hm.below hb).same (hp.gr.block m (hm.below hb).lt (fun e => h4 e.symm)))
      · rcases hp.new m e with h5 | h5
        · exact h4 h5
        · have := (h2 (by omega)).lt; have := hb.size; omega
    · have hij' : i = j := by omega
      subst hij'
      refine ⟨mb, by rw [List.getElem?_append_right (by omega)]; simp [hlenms], fun _ => hset _ _ (by omega) (hI2.same (hp.gr.block mb hI2.lt (fun e => hmo e.symm))), Nat.le_trans h.kept.size hmb, fun e => ?_⟩
      rcases hp.new mb e with h5 | h5
      · exact hmo h5
      · have := hI2.lt; omega
theorem ctx_ok {m : Mp} {f : Flat} {fb : Option Addr} {fc : Nat} {fuel : Int} {w WM wr : World} {M : Nat} {vv : Value} (hg : goodFlat f = true) (hf : RFuns m (.slice fb f.funs.length fc) f.funs) (hm : Ag m w) (hb : Below w.heap.size w wr) (hM : w.heap.size ≤ M) (h2 : 0 ≤ fuel) (h3 : fuel ≤ 1048576)
    (hV : VarsIn f (mch0 fb f.funs.length fc f.main fuel) M WM wr f.funs.length vv) : ∃ c : Ctx, c.Ok ∧ c.m0 = m ∧ c.M = M ∧ c.f = f ∧ c.w1 = wr ∧ c.fuel = fuel.toNat ∧ Mch c wr [c.M] 0 ⟨0, 0, []⟩ (.slice none 0 0) (.slice none 0 0) [] := by
  obtain ⟨ms, hms, hmsr⟩ := hV.row
  have G := goodFlat_F hg
  have hpos := G.pos
  obtain ⟨g, cap, rfl⟩ := ownsRow_some hms hpos
  have hgl := hms.lt g rfl
  have hltM := hV.ltM
  have hcp : f.funs.length ≤ cap := by
    rcases hms.2 with ⟨_, h⟩ | ⟨_, _, _, e, _, _, h, _⟩
    · omega
    · injection e with e1 e2 e3; omega
  have hlen : ms.length = f.funs.length := by have := hms.1; omega
  have hMr : M < wr.heap.size := Nat.lt_of_lt_of_le hltM hV.kept.size
  refine ⟨⟨m, M, f, fb, fc, fuel.toNat, wr, g, cap, fun i => match ms[i]? with | some (.map (some b)) => b | _ => 0⟩, ⟨hm.later hb, fun a v ha => ?_, hMr, hg, hf, ?_, ?_, hcp, by have := G.most; show f.funs.length ≤ _; omega, by show fuel.toNat ≤ _; omega, fun i hi => ?_⟩, rfl, rfl, rfl, rfl, rfl, ?_⟩
  · have := World.block_lt_of_cell? w a (hm a v ha)
    show a.block ≠ M
    omega
  · have := G.m0; have := G.m1; have := G.most; show I64 f.main; unfold I64; omega
  · show g ≠ M; omega
  · obtain ⟨mb, e1, e2, e3, e4⟩ := hmsr i hi
    show wr.cell? ⟨g, i, none⟩ = some (.map (some (match ms[i]? with | some (.map (some b)) => b | _ => 0))) ∧ IMap wr (match ms[i]? with | some (.map (some b)) => b | _ => 0) (numbered (placesF f.funs[i])) ∧ (match ms[i]? with | some (.map (some b)) => b | _ => 0) ≠ M ∧ (placesF f.funs[i]).Nodup
    rw [e1]
    have hcl := hms.cells rfl i _ e1
    rw [show (⟨g, 0, none⟩ : Addr).add i = ⟨g, 0 + i, none⟩ from by cases i <;> simp [Addr.add], Nat.zero_add] at hcl
    exact ⟨hcl, e2 hi, by show mb ≠ M; omega, (goodFun_parts (G.funs i hi)).2.2.2.2.1⟩
  · have hc := hV.cs
    have h5 := hV.m5
    refine ⟨Kept.refl _ _, by simp, fun k hk => .inl (by simpa using hk), hc 0 _ (by omega) rfl, hc 1 _ (by omega) rfl, hc 2 _ (by omega) rfl, hc 3 _ (by omega) rfl, hc 4 _ (by omega) rfl, h5, ?_, hc 7 _ (by omega) rfl, hc 8 _ (by omega) rfl, hV.fz, World.ownsRow_nil _ _ _ _, World.ownsRow_nil _ _ _ _, by simp [Value.ownBlock], by simp [Value.ownBlock], .inl rfl, by simp, by simp, by simp, by simp⟩
    have h6 := hc 6 (.int .i64 fuel) (by omega) rfl
    show wr.cell? ⟨M, 6, none⟩ = some (.int .i64 ((fuel.toNat : Nat) : Int))
    rw [Int.toNat_of_nonneg h2]; exact h6
theorem run_end {t : Out} {w w8 : World} {D R M : Nat} {tmps : Array Value} {vw vs : Value} (hD : w8.heap[D]? = some (.deferred (some []))) (hDw : w.heap.size ≤ D) (h6 : tmps[6]?.getD undef = .pointer (some ⟨R, 0, none⟩)) (h7 : tmps[7]?.getD undef = .pointer (some ⟨M, 0, none⟩)) (h8 : tmps[8]?.getD undef = .int .i64 t.err)
    (c0 : w8.cell? ⟨R, 0, none⟩ = some (.int .i64 t.e)) (c1 : w8.cell? ⟨R, 1, none⟩ = some vw) (c2 : w8.cell? ⟨R, 2, none⟩ = some vs) (hb : Below w.heap.size w w8) (ht : ToldAt t w w8 vw vs M) :
    bodyPostM Fence.wide 10 Try.prog Try.f22 (RunPost t w) .ret { tmps := tmps, defers := [{ target := Target.collected D, args := #[] }] } w8 := by
  have hg := grownBy_putObj' w8 D (.deferred none)
  have hk : ∀ a v, w8.cell? a = some v → (w8.putObj D (.deferred none)).cell? a = some v := fun a v h => cell_kept h hg (fun r e => by cases e; exact ⟨_, hD, rfl⟩)
  have hk' : ∀ a v, newM w w8 a = some v → newM w (w8.putObj D (.deferred none)) a = some v := fun a v h => by
    unfold newM at h ⊢
    split at h
    · cases h
    · rename_i hn; rw [if_neg hn]; exact hk a v h
  have k0 := hk _ _ c0
  have k1 := hk _ _ c1
  have k2 := hk _ _ c2
  refine ⟨by simp, .inl ⟨_, _, rfl, run_takeDeferred hD, ?_⟩⟩
  refine ⟨.tuple #[.agg #[.int .i64 t.e, vw, vs], .pointer (some ⟨M, 0, none⟩), .int .i64 t.err], ?_, vw, vs, M, rfl, hb.grown hg hb.size (fun k e => by cases e; exact hDw), ht.writes.mono hk', ht.shows.mono hk', hk _ _ ht.c0, hk _ _ ht.c1, hk _ _ ht.c2⟩
  simp [results, Try.results22, go_sem, h6, h7, h8, k0, k1, k2]
theorem Mch.noShows {c : Ctx} {w : World} {S : List Nat} {steps : Nat} {s : St} {vw vs : Value} {sh : List Int} (h : Mch c w S steps s vw vs sh) (ok : c.Ok) : Mch c (w.setCell ⟨c.M, 8, none⟩ (.slice none 0 0)) S steps s vw (.slice none 0 0) [] := by
  obtain ⟨r1, r2⟩ := h.rowNe ok
  have ho : ∀ j, j ≠ 8 → (w.setCell ⟨c.M, 8, none⟩ (.slice none 0 0)).cell? ⟨c.M, j, none⟩ = w.cell? ⟨c.M, j, none⟩ := fun j hj => World.cell?_setCell_other _ _ _ _ (by simp <;> omega)
  exact ⟨h.kept.trans (kept_setCell (by simp) _ _ _), h.inS, h.newS, (ho 0 (by omega)).trans h.c0, (ho 1 (by omega)).trans h.c1, (ho 2 (by omega)).trans h.c2, (ho 3 (by omega)).trans h.c3, (ho 4 (by omega)).trans h.c4, (ho 5 (by omega)).trans h.c5, (ho 6 (by omega)).trans h.c6, (ho 7 (by omega)).trans h.c7, World.cell?_setCell_same _ _ _ h.c8,
    fun j => by rw [World.frozen?_setCell]; exact h.fz j, ownsRow_setCell_other h.ownW r1 _, World.ownsRow_nil _ _ _ _, h.rowW, by simp [Value.ownBlock], by cases vw.ownBlock <;> simp [Value.ownBlock], h.i64W, by simp, h.lenW, by simp⟩
/-- What the machine holds, told, in a world in which but the result's block is as it was. -/
theorem told_of {c : Ctx} {w w5 w8 : World} {S : List Nat} {steps : Nat} {s : St} {vw vs : Value} {sh : List Int} {R M : Nat} (h : Mch c w5 S steps s vw vs sh) (hM : c.M = M) (hR : R < c.w1.heap.size) (hRM : R ≠ M) (hk : Kept [R] w5 w8) (hw : w.heap.size ≤ c.w1.heap.size) :
    RInts (newM w w8) vw s.writes ∧ RInts (newM w w8) vs sh ∧ w8.cell? ⟨M, 0, none⟩ = some (.int .i64 steps) ∧ w8.cell? ⟨M, 1, none⟩ = some (.int .i64 s.made) ∧ w8.cell? ⟨M, 2, none⟩ = some (.int .i64 s.work) := by
  subst hM
  have hn : R ∉ S := fun hm => (h.newS R hm).elim hRM (fun h2 => by omega)
  have lw := h.lenW
  have ls := h.lenS
  exact ⟨rints_of (ownsRow_kept h.ownW hk (fun e => hn (h.rowW _ e))) h.i64W (by omega) hw, rints_of (ownsRow_kept h.ownS hk (fun e => hn (h.rowS _ e))) h.i64S (by omega) hw, hk.cell h.c0 (by simpa using hRM.symm), hk.cell h.c1 (by simpa using hRM.symm), hk.cell h.c2 (by simpa using hRM.symm)⟩
theorem outOf_stuck {fin : Fin'} (h : fin.stuck = true) : outOf fin = ⟨0, [], [], fin.steps, fin.s.made, fin.s.work, 250⟩ := by unfold outOf; rw [if_pos h]
theorem outOf_done {fin : Fin'} (h : fin.stuck = false) (he : fin.e = 1) : outOf fin = ⟨fin.e, fin.s.writes, fin.shows, fin.steps, fin.s.made, fin.s.work, 0⟩ := by unfold outOf; rw [if_neg (by rw [h]; decide), if_pos he]
theorem outOf_else {fin : Fin'} (h : fin.stuck = false) (he : ¬ fin.e = 1) : outOf fin = ⟨fin.e, fin.s.writes, [], fin.steps, fin.s.made, fin.s.work, 0⟩ := by unfold outOf; rw [if_neg (by rw [h]; decide), if_neg he]
set_option maxRecDepth 100000 in
theorem run_go {m : Mp} {v : Value} {f : Flat} (hr : RFlat m v f) {pl : Value} {l : List Int} {fuel : Int} (w : World) (hm : Ag m w) (hl : RInts m pl l) (hg : goodFlat f = true) (ha : ¬ (256 < l.length ∨ fuel < 0 ∨ 1048576 < fuel)) :
    Calls Try.prog 22 #[.agg #[v, .int .i64 f.main], pl, .int .i64 fuel] w (RunPost (runF f l fuel) w) := by
  have HG := Lib.hid (fun (wx : World) (hb : Below w.heap.size w wx) => flGood hr wx (hm.later hb))
  rw [hg] at HG
  have HR := Lib.hid (runF_go hg ha)
  have HRF := Lib.hid hr.1
  obtain ⟨fb, fc, rfl, hfc, hfn, H3⟩ := hr.1.opn
  obtain ⟨ao, cap, rfl, hcap, hln, HL⟩ := hl.open hm
  have HI64 := Lib.hid hl.2
  have HGF := Lib.hid hg
  have HM := Lib.hid hm
  have h1 : ¬ 256 < l.length := by omega
  have h2 : 0 ≤ fuel := by omega
  have h3 : fuel ≤ 1048576 := by omega
  clear hr hm hg ha hl
  refine (callsIn_wide (n := 10)).1 ?_
  refine callsIn_of_wp_marks Try.func22 rfl trivial ?_
  refine wpIn_wide.2 ?_
  simp only [Try.ntmps22, List.size_toArray, List.length_cons, List.length_nil, Nat.reduceAdd, Nat.reduceSub, Array.replicate_succ, Array.replicate_zero, List.push_toArray, List.append_toArray, List.nil_append, List.cons_append]
  go_wp2_with (first | (go_at_call 32; refine (HG.out _ (bgo (below_box _ _) (below_box _ _))).mono ?_; rintro e w1 ⟨rfl, hb1⟩; obtain ⟨gb, gz⟩ := new_cells (cs := [.int .i64 0, .slice none 0 0, .slice none 0 0]) hb1 (b := w.heap.size + 1) (by simp); have gs := gb.1; have HB1 := Lib.hid hb1; have HGB := Lib.hid gb; have HGZ := Lib.hid gz; clear gb gz hb1) | (go_at_call 33; refine (backward_any _ _ _ _).mono ?_; rintro e w2 ⟨rfl, rfl⟩))
  have hszl : ((((w1.alloc (.cells #[.int .i64 2, .int .i64 0, .slice none 0 0] 93)).alloc (.cells #[.pointer (some ⟨w1.heap.size, 0, none⟩)] 90)).alloc (.cells #[.slice ao l.length cap] 25))).heap.size = w1.heap.size + 1 + 1 + 1 := by simp
  have hbl : Hid (Below w.heap.size w ((((w1.alloc (.cells #[.int .i64 2, .int .i64 0, .slice none 0 0] 93)).alloc (.cells #[.pointer (some ⟨w1.heap.size, 0, none⟩)] 90)).alloc (.cells #[.slice ao l.length cap] 25)))) :=
    Lib.hid (bgo (bgo (bgo (bgo (bgo (below_box _ _) (below_box _ _)) HB1.out) (below_box _ _)) (below_box _ _)) (below_box _ _))
  have hw1 : w.heap.size + 1 + 1 ≤ w1.heap.size := by omega
  generalize hW0 : ((((w1.alloc (.cells #[.int .i64 2, .int .i64 0, .slice none 0 0] 93)).alloc (.cells #[.pointer (some ⟨w1.heap.size, 0, none⟩)] 90)).alloc (.cells #[.slice ao l.length cap] 25))) = W0 at *
  refine range_back (R := w1.heap.size + 1) HI64.out hln rfl ⟨by omega, by omega⟩ (by rw [← hW0]; exact (BoxAt.new' _ [.slice ao l.length cap] 25 (w1.heap.size + 1 + 1) (by simp)).2 0 _ rfl) hcap ?_ (InG f.funs.length (w1.heap.size + 1) W0) InG.own ?_ ?_ ?_ ?_
  · intro i hi
    obtain ⟨b, o, e, hc⟩ := HL.out i hi
    have hbw := World.block_lt_of_cell? w _ (hc i hi)
    exact ⟨b, o, e, ⟨by have : b < w.heap.size := hbw; omega, by have : b < w.heap.size := hbw; omega⟩, fun j hj => (hbl.out.cell (p := ⟨b, o + j, none⟩) hbw).trans (hc j hj)⟩
  · have hb9 := (BoxAt.new' (w1.alloc (.cells #[.int .i64 2, .int .i64 0, .slice none 0 0] 93)) [.pointer (some ⟨w1.heap.size, 0, none⟩)] 90 (w1.heap.size + 1) (by simp)).later (below_box _ (.cells #[.slice ao l.length cap] 25))
    have hz9 := frozen_below (below_box ((w1.alloc (.cells #[.int .i64 2, .int .i64 0, .slice none 0 0] 93)).alloc (.cells #[.pointer (some ⟨w1.heap.size, 0, none⟩)] 90)) (.cells #[.slice ao l.length cap] 25)) (k := w1.heap.size + 1) (j := 0) (by simp) (by
      have := heap_alloc_new (w1.alloc (.cells #[.int .i64 2, .int .i64 0, .slice none 0 0] 93)) (.cells #[.pointer (some ⟨w1.heap.size, 0, none⟩)] 90)
      rw [show (w1.alloc (.cells #[.int .i64 2, .int .i64 0, .slice none 0 0] 93)).heap.size = w1.heap.size + 1 from by simp] at this
      exact frozen_cells this 0)
    have hv0 := (val_new f.funs.length [w1.heap.size + 1] w1 2 0 ⟨by omega, by omega⟩ ⟨by omega, by omega⟩ (by omega) (by simp) 93 w1.heap.size rfl (.slice none 0 0) [] (fun _ => .slice none 0 0) ⟨none, 0, rfl, by simp, by simp, by simp⟩ (by simp)).mono (Ext.below (bgo (below_box _ (.cells #[.pointer (some ⟨w1.heap.size, 0, none⟩)] 90)) (below_box _ (.cells #[.slice ao l.length cap] 25)))).mem
    rw [hW0] at hb9 hz9 hv0
    exact ⟨⟨⟨_, hb9.2 0 _ rfl, hv0⟩, hz9⟩, Kept.refl _ _⟩
  · intro n x y W K hK
    simp only [List.setIfInBounds_toArray, List.set_cons_zero, List.set_cons_succ] at hK ⊢
    gi_wp2
    exact hK
  · intro n s x y W P hG hy hP
    simp only [List.setIfInBounds_toArray, List.set_cons_zero, List.set_cons_succ]
    obtain ⟨⟨⟨p, c9, hp⟩, z9⟩, hk9⟩ := hG
    obtain ⟨pb, rfl⟩ := rval_ptr hp
    have lt9 : w1.heap.size + 1 < W.heap.size := World.block_lt_of_cell? W _ c9
    have lt8 : w1.heap.size < W.heap.size := by omega
    have lt7 : w1.heap.size < W.heap.size + 1 := by omega
    have ne8 : ¬ w1.heap.size = W.heap.size := by omega
    have ne9 : ¬ w1.heap.size + 1 = W.heap.size := by omega
    have ne7 : ¬ w1.heap.size = W.heap.size + 1 := by omega
    have hmx : Try.prog.follows .mixedOrders = true := by kernel_rfl
    have HP := Lib.hid hP
    have HPP := Lib.hid hp
    have HK9 := Lib.hid hk9
    have HZ := Lib.hid hszl
    have HY := Lib.hid hy
    clear hP hp hk9 hszl hW0
    gi_wp2
    gi_region_with_o ((refine ⟨trivial, ?_⟩; gi_at_call 34; refine (CallsIn.inRound n (callsIn_wide.2 (iWrap y _ HY.out.1 HY.out.2))).mono ?_; rintro e w' ⟨rfl, rfl⟩))
    all_goals gi_wp2
    all_goals
      obtain ⟨r1, r2, r3⟩ := in_round (y := y) c9 HPP.out z9 HK9.out 93 90 rfl
      exact HP.out _ _ r1 r2 r3
  · intro D W hD hG hK
    obtain ⟨⟨⟨p, c9, hp⟩, z9⟩, hk9⟩ := hG
    obtain ⟨pb, rfl⟩ := rval_ptr hp
    have hsW := hk9.size
    have hbW : Below w1.heap.size w1 W := by
      refine Below.trans ?_ (hk9.toBelow (B := w1.heap.size) (by omega) (by simp))
      rw [← hW0]
      exact bgo (bgo (below_box _ _) (below_box _ _)) (below_box _ _)
    have hbx := ((BoxAt.new w [.slice fb f.funs.length fc, .int .i64 f.main] 24).later (below_box _ (.cells #[.int .i64 0, .slice none 0 0, .slice none 0 0] 30))).later HB1.out
    have f0 := (hbx.later hbW).2 0 _ rfl
    have f1 := (hbx.later hbW).2 1 _ rfl
    have ltw : w.heap.size < W.heap.size := (hbx.later hbW).1
    have hwW : Below w.heap.size w W := hbl.out.trans (hk9.toBelow hbl.out.size (by simp; omega))
    have hVS := VarsIn.start (f := f) (cs := mch0 fb f.funs.length fc f.main fuel) (W := W) rfl 100 rfl rfl
    have HKD := Lib.hid hK
    have HC9 := Lib.hid c9
    have HP9 := Lib.hid hp
    have HWW := Lib.hid hwW
    have HBW := Lib.hid hbW
    have HWM := Lib.hid (below_box W (.cells (mch0 fb f.funs.length fc f.main fuel).toArray 100))
    have HG := goodFlat_F HGF.out
    have hgm := HG.most
    have hLV := Lib.hid (fun j (hj : j < f.funs.length) => (goodFun_parts (HG.funs j hj)).2.2.2.2.1)
    clear hK c9 hp z9 hk9 hbW hbx hwW hW0 hw1
    go_wp2_with fail
    obtain ⟨WM, hWM⟩ : ∃ WM, WM = W.alloc (.cells (mch0 fb f.funs.length fc f.main fuel).toArray 100) := ⟨_, rfl⟩
    rw [← hWM] at hVS HWM
    have HVS := Lib.hid hVS
    have hszM : WM.heap.size = W.heap.size + 1 := by rw [hWM]; simp
    change Code.wp _ _ _ _ (W.alloc (.cells (mch0 fb f.funs.length fc f.main fuel).toArray 100))
    rw [← hWM]
    have HWMe := Lib.hid hWM
    clear hVS hWM
    go_loopg [57] (f.funs.length) (fun g i wr => ∃ j : Nat, j + g = f.funs.length ∧ i = .int .i64 j ∧ ∃ vv, Hid (VarsIn f (mch0 fb f.funs.length fc f.main fuel) W.heap.size WM wr j vv))
    case atStart => exact ⟨0, by omega, rfl, _, HVS⟩
    case round =>
      obtain ⟨j, hj, rfl, vv, hV⟩ := hrel
      have hwr : Below w.heap.size w wr := bgo HWW.out (HWM.out.trans (hV.out.kept.toBelow (by omega) (by simp)))
      have HWR := Lib.hid hwr
      by_cases hlt : j < f.funs.length
      · obtain ⟨b, o, pb', pc, tb, tc, ab, ac, fb', fc', nb, nc, rfl, ik, hpp, hrt, hcell⟩ := H3.out j hlt
        have hm := HM.out.later hwr
        obtain ⟨x0, x1, e0, e1, e2, e3, e4, e5, e6, e7⟩ := hcell _ hm
        obtain ⟨y1, y2, y3, y4, y5, y6, y7⟩ := flat7 e1 e2 e3 e4 e5 e6 e7
        have HPL := Lib.hid (fun (wx : World) (hb : Below wr.heap.size wr wx) => places_any hpp hrt (hLV.out j hlt) wx (hm.later hb))
        have m5 := hV.out.m5
        have mz := hV.out.fz 5
        have ltM := Nat.lt_of_lt_of_le hV.out.ltM hV.out.kept.size
        clear e1 e2 e3 e4 e5 e6 e7 hm hcell hpp hrt ik hwr
        obtain ⟨i0, hi0, hz0, hz1, hz2⟩ := info_parts infoMp
        obtain ⟨ms, hms, hmsr⟩ := hV.out.row
        have hown := fun k (hk : vv.ownBlock = some k) => hms.lt k hk
        have HQ : Hid (∀ w', Kept vv.ownBlock.toList (wr.alloc (.cells #[.int .i64 f.funs[j].1, .slice pb' f.funs[j].2.1.length pc, .int .i64 f.funs[j].2.2.kind, .int .i64 f.funs[j].2.2.x, .int .i64 f.funs[j].2.2.n, .bool f.funs[j].2.2.ints, .slice tb f.funs[j].2.2.tags.length tc, .slice ab f.funs[j].2.2.args.length ac, .slice fb' f.funs[j].2.2.funs.length fc', .slice nb f.funs[j].2.2.next.length nc] 54)) w' →
            w'.cell? ⟨W.heap.size, 5, none⟩ = some vv ∧ w'.frozen? ⟨W.heap.size, 5, none⟩ = false ∧ w'.cell? ⟨wr.heap.size, 0, none⟩ = some (.int .i64 f.funs[j].1) ∧ w'.cell? ⟨wr.heap.size, 1, none⟩ = some (.slice pb' f.funs[j].2.1.length pc) ∧ w'.cell? ⟨wr.heap.size, 2, none⟩ = some (.int .i64 f.funs[j].2.2.kind) ∧ w'.cell? ⟨wr.heap.size, 3, none⟩ = some (.int .i64 f.funs[j].2.2.x) ∧ w'.cell? ⟨wr.heap.size, 4, none⟩ = some (.int .i64 f.funs[j].2.2.n) ∧ w'.cell? ⟨wr.heap.size, 5, none⟩ = some (.bool f.funs[j].2.2.ints) ∧ w'.cell? ⟨wr.heap.size, 6, none⟩ = some (.slice tb f.funs[j].2.2.tags.length tc) ∧ w'.cell? ⟨wr.heap.size, 7, none⟩ = some (.slice ab f.funs[j].2.2.args.length ac) ∧ w'.cell? ⟨wr.heap.size, 8, none⟩ = some (.slice fb' f.funs[j].2.2.funs.length fc') ∧ w'.cell? ⟨wr.heap.size, 9, none⟩ = some (.slice nb f.funs[j].2.2.next.length nc)) := Lib.hid (fun w' hk => by
          have hx := BoxAt.new wr [.int .i64 f.funs[j].1, .slice pb' f.funs[j].2.1.length pc, .int .i64 f.funs[j].2.2.kind, .int .i64 f.funs[j].2.2.x, .int .i64 f.funs[j].2.2.n, .bool f.funs[j].2.2.ints, .slice tb f.funs[j].2.2.tags.length tc, .slice ab f.funs[j].2.2.args.length ac, .slice fb' f.funs[j].2.2.funs.length fc', .slice nb f.funs[j].2.2.next.length nc] 54
          have nX : wr.heap.size ∉ vv.ownBlock.toList := fun h => by have := (hown _ (by simpa using h)).2; omega
          have nM : W.heap.size ∉ vv.ownBlock.toList := fun h => by have := (hown _ (by simpa using h)).1; omega
          exact ⟨hk.cell (((below_box wr _).cell ltM).trans m5) nM, (World.frozen?_of_block (a := ⟨W.heap.size, 5, none⟩) (hk.block _ (by simp; omega) nM)).trans (frozen_below (below_box wr _) ltM mz), hk.cell (hx.2 0 _ rfl) nX, hk.cell (hx.2 1 _ rfl) nX, hk.cell (hx.2 2 _ rfl) nX, hk.cell (hx.2 3 _ rfl) nX, hk.cell (hx.2 4 _ rfl) nX, hk.cell (hx.2 5 _ rfl) nX, hk.cell (hx.2 6 _ rfl) nX, hk.cell (hx.2 7 _ rfl) nX, hk.cell (hx.2 8 _ rfl) nX, hk.cell (hx.2 9 _ rfl) nX⟩)
        obtain ⟨va, vc, rfl⟩ := ownsRow_slice hms
        have HO := Lib.hid hms
        have HMR := Lib.hid hmsr
        have hszr := hV.out.kept.size
        clear hms hmsr hown
        go_wp2_with fail
        have hxx := BoxAt.new wr [.int .i64 f.funs[j].1, .slice pb' f.funs[j].2.1.length pc, .int .i64 f.funs[j].2.2.kind, .int .i64 f.funs[j].2.2.x, .int .i64 f.funs[j].2.2.n, .bool f.funs[j].2.2.ints, .slice tb f.funs[j].2.2.tags.length tc, .slice ab f.funs[j].2.2.args.length ac, .slice fb' f.funs[j].2.2.funs.length fc', .slice nb f.funs[j].2.2.next.length nc] 54
        refine wp_region_noPanic ?_
        go_region_law (first | (refine step_push rfl (.tmp 65) (.tmp 68) rfl Try.underlying98 hi0 hz0 hz1 hz2 (by decide) rfl ((ownsRow_below HO.out (bgo (below_box _ _).drew hb2)).alloc _) (a := ⟨w2.heap.size, 0, none⟩) (c := 1) (y := .map (some mb)) rfl (by simp) rfl (by unfold maxLen; omega) (by omega) (by have := hb2.size; simp at this ⊢; omega) ?_; intro v' w3 hp; obtain ⟨g9, cp9, rfl⟩ := hp.some; obtain ⟨q5', qz', r0', r1', r2', r3', r4', r5', r6', r7', r8', r9'⟩ := HQ.out w3 (((Kept.below (bgo (Below.refl _ _).drew hb2)).trans (Kept.below (below_box w2 _))).trans hp.kept0)) | (go_simp; go_at_call 35; refine (HPL.out _ (below_box _ _).drew).mono ?_; rintro e w2 ⟨hb2, mb, rfl, hI2, hmb⟩; obtain ⟨q5, qz, r0, r1, r2, r3, r4, r5, r6, r7, r8, r9⟩ := HQ.out w2 (Kept.below (bgo (Below.refl _ _).drew hb2)); have lt2 := Nat.lt_of_lt_of_le ltM (bgo (below_box wr _).drew hb2).size))
        all_goals (refine NoPanic.normal ?_)
        all_goals go_wp2_with fail
        all_goals
          have HNX := Lib.hid (hV.out.next hlt (bgo (below_box _ _).drew hb2) hI2 (by have h1 := hmb; simp at h1; omega) (below_box w2 _) HO.out HMR.out hp rfl)
          go_roundg (f.funs.length - (j + 1))
          case measure => omega
          case rel => exact ⟨j + 1, by omega, by go_num, _, HNX⟩
      · have hjl : j = f.funs.length := by omega
        subst hjl
        obtain ⟨c, hOk, hc0, hcM, hcf, hcw, hcfu, hMch⟩ := ctx_ok HGF.out HRF.out HM.out hwr (by omega) h2 h3 hV.out
        have hpw : RVal c.f.funs.length (memB [c.M] wr) (.pointer (some ⟨pb, 0, none⟩)) (inputV l) := by
          rw [hcf, hcM]
          refine HP9.out.mono fun a u ha => ?_
          have ha2 : W.cell? a = some u := memB_ag _ _ a u ha
          have hlt2 := World.block_lt_of_cell? W a ha2
          unfold memB
          rw [if_neg (by simp; omega)]
          exact hV.out.kept.cell ((HWM.out.cell hlt2).trans ha2) (by simp; omega)
        have HWH := whole_any hOk hMch (by intro k hk; simp at hk; subst hk; rw [hcM]; exact Nat.lt_of_lt_of_le hV.out.ltM hV.out.kept.size) rfl rfl hpw
        have HFI : loopF c.f c.fuel (funAt c.f c.f.main).2.2 (bindEnv (funAt c.f c.f.main).2.1 [inputV l]) 0 ⟨0, 0, []⟩ = finF f l fuel := by rw [hcf, hcfu]; rfl
        rw [HFI] at HWH
        have HWHM := Lib.hid HWH
        rw [hcM] at HWHM
        have lt9 : w1.heap.size + 1 < W.heap.size := World.block_lt_of_cell? W _ HC9.out
        have c9 := hV.out.kept.cell ((HWM.out.cell (p := ⟨w1.heap.size + 1, 0, none⟩) lt9).trans HC9.out) (by simp; omega)
        have ltMr : W.heap.size < wr.heap.size := Nat.lt_of_lt_of_le hV.out.ltM hV.out.kept.size
        have hbW : Below w1.heap.size w1 wr := HBW.out.trans (((HWM.out.mono HBW.out.size)).trans (hV.out.kept.toBelow (B := w1.heap.size) (by omega) (by simp; omega)))
        have HG1 := Lib.hid (HGB.out.later hbW)
        have HZ1 := Lib.hid (fun j => frozen_below hbW HGB.out.1 (HGZ.out j))
        have lt1r := HG1.out.1
        have HN1 : Hid (w.heap.size + 1 ∉ [W.heap.size]) := Lib.hid (by simp; omega)
        have HBWr := Lib.hid hbW
        clear hbW hpw HWH HFI
        cases hst : (finF f l fuel).stuck with
        | true =>
          unfold WholePost at HWHM
          rw [hst] at HWHM
          have HST := Lib.hid hst
          clear hst
          go_wp2_with fail
          refine HWHM.out.mono ?_
          rintro e w5 ⟨rfl, S5, vw, vs, sh, hk5, hM5, hsh5⟩
          obtain ⟨va7, vc7, rfl⟩ := ownsRow_slice hM5.ownW
          obtain ⟨va8, vc8, rfl⟩ := ownsRow_slice hM5.ownS
          have d7 := hM5.c7
          have d8 := hM5.c8
          have dz8 := hM5.fz 8
          rw [hcM] at d7 d8 dz8
          have ltM5 := Nat.lt_of_lt_of_le ltMr hk5.size
          have g0 := hk5.cell (HG1.out.2 0 _ rfl) HN1.out
          have g1 := hk5.cell (HG1.out.2 1 _ rfl) HN1.out
          have g2 := hk5.cell (HG1.out.2 2 _ rfl) HN1.out
          have gz := fun j => (World.frozen?_of_block (a := ⟨w.heap.size + 1, j, none⟩) (hk5.block _ lt1r HN1.out)).trans (HZ1.out j)
          have gz0 := gz 0
          have gz1 := gz 1
          have gz2 := gz 2
          have lt15 := Nat.lt_of_lt_of_le lt1r hk5.size
          have HK5 := Lib.hid hk5
          have HM5 := Lib.hid hM5
          have HSH5 := Lib.hid hsh5
          clear hk5 hM5 hsh5 gz
          go_wp2_with fail
          refine wp_region_noPanic ?_
          go_region
          all_goals (refine NoPanic.normal ?_)
          all_goals go_wp2_with fail
          have hk8 : Kept [w.heap.size + 1] w5 ((((w5.setCell ⟨w.heap.size + 1, 0, none⟩ (.int .i64 0)).setCell ⟨w.heap.size + 1, 1, none⟩ (.slice none 0 0)).setCell ⟨w.heap.size + 1, 2, none⟩ (.slice none 0 0)).alloc (.cells #[.int .i64 (finF f l fuel).e, .bool true] 103)).drew :=
            ((((kept_setCell (by simp) w5 0 _).trans (kept_setCell (by simp) _ 1 _)).trans (kept_setCell (by simp) _ 2 _)).trans (Kept.below (below_box _ _))).drew
          have hMc : w.heap.size + 1 ≠ W.heap.size := by omega
          obtain ⟨t1, t2, t3, t4, t5⟩ := told_of HM5.out hcM (R := w.heap.size + 1) (by rw [hcw]; exact lt1r) hMc hk8 (w := w) (by rw [hcw]; exact HWR.out.size)
          rw [HR.out, outOf_stuck HST.out]
          have hDW : D < W.heap.size := (Array.getElem?_eq_some_iff.1 HKD.out).1
          have hD8 : (((((w5.setCell ⟨w.heap.size + 1, 0, none⟩ (.int .i64 0)).setCell ⟨w.heap.size + 1, 1, none⟩ (.slice none 0 0)).setCell ⟨w.heap.size + 1, 2, none⟩ (.slice none 0 0)).alloc (.cells #[.int .i64 (finF f l fuel).e, .bool true] 103)).drew).heap[D]? = some (.deferred (some [])) :=
            (hk8.block D (by have := HK5.out.size; omega) (by simp; omega)).trans ((HK5.out.block D (by omega) (by simp; omega)).trans ((hV.out.kept.block D (by omega) (by simp; omega)).trans ((HWM.out.block D hDW).trans HKD.out)))
          refine run_end (R := w.heap.size + 1) (M := W.heap.size) (vw := .slice none 0 0) (vs := .slice none 0 0) hD8 (by omega) rfl rfl rfl ?_ ?_ ?_ ?_ ⟨rints_nil _, rints_nil _, t3, t4, t5⟩
          · simp [go_sem, g0, g1, g2, lt15]
          · simp [go_sem, g0, g1, g2, lt15]
          · simp [go_sem, g0, g1, g2, lt15]
          · exact HWR.out.trans ((HK5.out.toBelow HWR.out.size (by simp; omega)).trans (hk8.toBelow (by have := HWR.out.size; have := HK5.out.size; omega) (by simp)))
        | false =>
          unfold WholePost at HWHM
          rw [hst] at HWHM
          have HST := Lib.hid hst
          clear hst
          generalize hfin : finF f l fuel = fin at *
          by_cases hE : fin.e = 1
          · have q1 : (fin.e != 1) = false := by rw [hE]; rfl
            have HE := Lib.hid hE
            clear hE
            go_wp2_with fail
            refine HWHM.out.mono ?_
            rintro e w5 ⟨rfl, S5, vw, vs, sh, hk5, hM5, hsh5⟩
            obtain ⟨va7, vc7, rfl⟩ := ownsRow_slice hM5.ownW
            obtain ⟨va8, vc8, rfl⟩ := ownsRow_slice hM5.ownS
            have d7 := hM5.c7
            have d8 := hM5.c8
            have dz8 := hM5.fz 8
            rw [hcM] at d7 d8 dz8
            have ltM5 := Nat.lt_of_lt_of_le ltMr hk5.size
            have g0 := hk5.cell (HG1.out.2 0 _ rfl) HN1.out
            have g1 := hk5.cell (HG1.out.2 1 _ rfl) HN1.out
            have g2 := hk5.cell (HG1.out.2 2 _ rfl) HN1.out
            have gz := fun j => (World.frozen?_of_block (a := ⟨w.heap.size + 1, j, none⟩) (hk5.block _ lt1r HN1.out)).trans (HZ1.out j)
            have gz0 := gz 0
            have gz1 := gz 1
            have gz2 := gz 2
            have lt15 := Nat.lt_of_lt_of_le lt1r hk5.size
            have HK5 := Lib.hid hk5
            have HM5 := Lib.hid hM5
            have HSH5 := Lib.hid hsh5
            clear hk5 hM5 hsh5 gz
            go_wp2_with fail
            refine wp_region_noPanic ?_
            go_region
            all_goals (refine NoPanic.normal ?_)
            all_goals go_wp2_with fail
            have hk8 : Kept [w.heap.size + 1] w5 ((((w5.setCell ⟨w.heap.size + 1, 0, none⟩ (.int .i64 fin.e)).setCell ⟨w.heap.size + 1, 1, none⟩ (.slice va7 fin.s.writes.length vc7)).setCell ⟨w.heap.size + 1, 2, none⟩ (.slice va8 sh.length vc8)).alloc (.cells #[.int .i64 fin.e, .bool false] 103)).drew :=
              ((((kept_setCell (by simp) w5 0 _).trans (kept_setCell (by simp) _ 1 _)).trans (kept_setCell (by simp) _ 2 _)).trans (Kept.below (below_box _ _))).drew
            have hMc : w.heap.size + 1 ≠ W.heap.size := by omega
            obtain ⟨t1, t2, t3, t4, t5⟩ := told_of HM5.out hcM (R := w.heap.size + 1) (by rw [hcw]; exact lt1r) hMc hk8 (w := w) (by rw [hcw]; exact HWR.out.size)
            rw [HR.out, outOf_done HST.out HE.out]
            rw [HSH5.out trivial HE.out] at t2
            have hDW : D < W.heap.size := (Array.getElem?_eq_some_iff.1 HKD.out).1
            have hD8 : (((((w5.setCell ⟨w.heap.size + 1, 0, none⟩ (.int .i64 fin.e)).setCell ⟨w.heap.size + 1, 1, none⟩ (.slice va7 fin.s.writes.length vc7)).setCell ⟨w.heap.size + 1, 2, none⟩ (.slice va8 sh.length vc8)).alloc (.cells #[.int .i64 fin.e, .bool false] 103)).drew).heap[D]? = some (.deferred (some [])) :=
              (hk8.block D (by have := HK5.out.size; omega) (by simp; omega)).trans ((HK5.out.block D (by omega) (by simp; omega)).trans ((hV.out.kept.block D (by omega) (by simp; omega)).trans ((HWM.out.block D hDW).trans HKD.out)))
            refine run_end (R := w.heap.size + 1) (M := W.heap.size) (vw := .slice va7 fin.s.writes.length vc7) (vs := .slice va8 sh.length vc8) hD8 (by omega) rfl rfl rfl ?_ ?_ ?_ ?_ ⟨t1, by rw [HSH5.out trivial HE.out]; exact t2, t3, t4, t5⟩
            · simp [go_sem, g0, g1, g2, lt15]
            · simp [go_sem, g0, g1, g2, lt15]
            · simp [go_sem, g0, g1, g2, lt15]
            · exact HWR.out.trans ((HK5.out.toBelow HWR.out.size (by simp; omega)).trans (hk8.toBelow (by have := HWR.out.size; have := HK5.out.size; omega) (by simp)))
          · have q1 : (fin.e != 1) = true := by rw [bne_iff_ne]; exact hE
            go_wp2_with fail
            refine HWHM.out.mono ?_
            rintro e w5 ⟨rfl, S5, vw, vs, sh, hk5, hM5, hsh5⟩
            obtain ⟨va7, vc7, rfl⟩ := ownsRow_slice hM5.ownW
            obtain ⟨va8, vc8, rfl⟩ := ownsRow_slice hM5.ownS
            have d7 := hM5.c7
            have d8 := hM5.c8
            have dz8 := hM5.fz 8
            rw [hcM] at d7 d8 dz8
            have ltM5 := Nat.lt_of_lt_of_le ltMr hk5.size
            have g0 := hk5.cell (HG1.out.2 0 _ rfl) HN1.out
            have g1 := hk5.cell (HG1.out.2 1 _ rfl) HN1.out
            have g2 := hk5.cell (HG1.out.2 2 _ rfl) HN1.out
            have gz := fun j => (World.frozen?_of_block (a := ⟨w.heap.size + 1, j, none⟩) (hk5.block _ lt1r HN1.out)).trans (HZ1.out j)
            have gz0 := gz 0
            have gz1 := gz 1
            have gz2 := gz 2
            have lt15 := Nat.lt_of_lt_of_le lt1r hk5.size
            have HK5 := Lib.hid hk5
            have HM5 := Lib.hid hM5
            have HSH5 := Lib.hid hsh5
            clear hk5 hM5 hsh5 gz
            go_wp2_with fail
            refine wp_region_noPanic ?_
            go_region
            all_goals (refine NoPanic.normal ?_)
            all_goals go_wp2_with fail
            have hE' := hE
            have hM6 := HM5.out.noShows hOk
            rw [hcM] at hM6
            have hk6 : Kept [W.heap.size] w5 (w5.setCell ⟨W.heap.size, 8, none⟩ (.slice none 0 0)) := kept_setCell (by simp) w5 8 _
            have hk8 : Kept [w.heap.size + 1] (w5.setCell ⟨W.heap.size, 8, none⟩ (.slice none 0 0)) (((((w5.setCell ⟨W.heap.size, 8, none⟩ (.slice none 0 0)).setCell ⟨w.heap.size + 1, 0, none⟩ (.int .i64 fin.e)).setCell ⟨w.heap.size + 1, 1, none⟩ (.slice va7 fin.s.writes.length vc7)).setCell ⟨w.heap.size + 1, 2, none⟩ (.slice none 0 0)).alloc (.cells #[.int .i64 fin.e, .bool false] 103)).drew :=
              ((((kept_setCell (by simp) _ 0 _).trans (kept_setCell (by simp) _ 1 _)).trans (kept_setCell (by simp) _ 2 _)).trans (Kept.below (below_box _ _))).drew
            have hMc : w.heap.size + 1 ≠ W.heap.size := by omega
            obtain ⟨t1, t2, t3, t4, t5⟩ := told_of hM6 hcM (R := w.heap.size + 1) (by rw [hcw]; exact lt1r) hMc hk8 (w := w) (by rw [hcw]; exact HWR.out.size)
            rw [HR.out, outOf_else HST.out hE']
            have hDW : D < W.heap.size := (Array.getElem?_eq_some_iff.1 HKD.out).1
            have hD8 : ((((((w5.setCell ⟨W.heap.size, 8, none⟩ (.slice none 0 0)).setCell ⟨w.heap.size + 1, 0, none⟩ (.int .i64 fin.e)).setCell ⟨w.heap.size + 1, 1, none⟩ (.slice va7 fin.s.writes.length vc7)).setCell ⟨w.heap.size + 1, 2, none⟩ (.slice none 0 0)).alloc (.cells #[.int .i64 fin.e, .bool false] 103)).drew).heap[D]? = some (.deferred (some [])) :=
              (hk8.block D (by have := HK5.out.size; have := hk6.size; omega) (by simp; omega)).trans ((hk6.block D (by have := HK5.out.size; omega) (by simp; omega)).trans ((HK5.out.block D (by omega) (by simp; omega)).trans ((hV.out.kept.block D (by omega) (by simp; omega)).trans ((HWM.out.block D hDW).trans HKD.out))))
            refine run_end (R := w.heap.size + 1) (M := W.heap.size) (vw := .slice va7 fin.s.writes.length vc7) (vs := .slice none 0 0) hD8 (by omega) rfl rfl rfl ?_ ?_ ?_ ?_ ⟨t1, t2, t3, t4, t5⟩
            · simp [go_sem, g0, g1, g2, lt15, hMc.symm, hMc]
            · simp [go_sem, g0, g1, g2, lt15, hMc.symm, hMc]
            · simp [go_sem, g0, g1, g2, lt15, hMc.symm, hMc]
            · exact HWR.out.trans ((HK5.out.toBelow HWR.out.size (by simp; omega)).trans ((hk6.toBelow (by have := HWR.out.size; have := HK5.out.size; omega) (by simp; omega)).trans (hk8.toBelow (by have := HWR.out.size; have := HK5.out.size; have := hk6.size; omega) (by simp))))
end Go.Proofs.Ytjcgoohmhbgkiaa
