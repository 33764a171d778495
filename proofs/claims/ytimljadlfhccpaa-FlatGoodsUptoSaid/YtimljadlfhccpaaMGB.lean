/- The machine's run: what it refuses. The machine's run: what it does. The run's four faces: Run, Steps, Made, Work. A law that holds asks that a small program is answered: wakes. More fuel: the law's walk. -/
import Derived.Test.YtimljadlfhccpaaProg
import Derived.Test.YtimljadlfhccpaaMFv
import Derived.Test.YtimljadlfhccpaaGoodG
import Derived.Deep.RegionLaw
import Derived.Test.YtimljadlfhccpaaMCp
import Derived.Test.YtimljadlfhccpaaFuelP
import Derived.Test.YtimljadlfhccpaaMA
set_option linter.all false
set_option linter.all false
set_option linter.all false
set_option linter.all false
namespace Go.Proofs.Ytimljadlfhccpaa
open Go.RowKit
set_option maxHeartbeats 1000000

theorem told_none (w0 w : World) (cb : Nat) (e err : Int) (h0 : w.cell? ⟨cb, 0, none⟩ = some (.int .i64 0)) (h1 : w.cell? ⟨cb, 1, none⟩ = some (.int .i64 0)) (h2 : w.cell? ⟨cb, 2, none⟩ = some (.int .i64 0)) : ToldAt ⟨e, [], [], 0, 0, 0, err⟩ w0 w (.slice none 0 0) (.slice none 0 0) cb :=
  ⟨rints_nil _, rints_nil _, h0, h1, h2⟩
end Go.Proofs.Ytimljadlfhccpaa
set_option linter.all false
set_option linter.all false
set_option linter.all false
namespace Go.Proofs.Ytimljadlfhccpaa
open Go.RowKit Go.Shelf
attribute [local go_sem] Oper.semAt_some
set_option maxHeartbeats 4000000

def InG (nf B : Nat) (W0 : World) (s : List Int) (W : World) : Prop := ((∃ p, W.cell? ⟨B, 0, none⟩ = some p ∧ RVal nf (memB [B] W) p (inputV s)) ∧ W.frozen? ⟨B, 0, none⟩ = false) ∧ Kept [B] W0 W
theorem InG.own {nf B : Nat} {W0 : World} : ∀ s W W' row, InG nf B W0 s W → W.grownBy W' row → (∀ r, row = some r → W0.heap.size ≤ r ∧ ∃ o : Obj, W.heap[r]? = some o ∧ o.isCells = false) → InG nf B W0 s W' := by
  rintro s W W' row ⟨⟨⟨p, h1, h2⟩, h3⟩, h4⟩ hg hr
  have hr' := fun r e => (hr r e).2
  refine ⟨⟨⟨p, cell_kept h1 hg hr', rval_grown hg hr' h2⟩, (frozen_kept h1 hg hr').trans h3⟩, hg.os.trans h4.os, hg.tape.trans h4.tape, hg.output.trans h4.output, Nat.le_trans h4.size hg.size, fun k hk hs => (hg.block k (Nat.lt_of_lt_of_le hk h4.size) (fun e => by have := (hr k e.symm).1; omega)).trans (h4.block k hk hs)⟩
theorem in_round {nf R : Nat} {W0 W : World} {s : List Int} {y : Int} {pb : Nat} (c9 : W.cell? ⟨R, 0, none⟩ = some (.pointer (some ⟨pb, 0, none⟩))) (hp : RVal nf (memB [R] W) (.pointer (some ⟨pb, 0, none⟩)) (inputV s)) (z9 : W.frozen? ⟨R, 0, none⟩ = false) (hk : Kept [R] W0 W) (t1 t2 : TypeId) {W' : World}
    (e : W' = ((((W.setCell ⟨R, 0, none⟩ (.pointer (some ⟨W.heap.size + 1 + 1, 0, none⟩))).alloc (.cells #[.int .i64 1, .int .i64 (w31 y), .slice none 0 0] t1)).alloc (.cells #[.pointer (some ⟨W.heap.size, 0, none⟩), .pointer (some ⟨pb, 0, none⟩)] t2)).alloc (.cells #[.int .i64 2, .int .i64 1, .slice (some ⟨W.heap.size + 1, 0, none⟩) 2 2] t1)).drew) :
    KeepsFrom W0.heap.size W W' ∧ Kq W0.heap.size R W W' ∧ InG nf R W0 (y :: s) W' := by
  subst e
  obtain ⟨Wc, hWc⟩ : ∃ Wc, W.setCell ⟨R, 0, none⟩ (.pointer (some ⟨W.heap.size + 1 + 1, 0, none⟩)) = Wc := ⟨_, rfl⟩
  have hsz : Wc.heap.size = W.heap.size := by rw [← hWc]; exact size_setCell _ _ _
  have hR : R < W.heap.size := World.block_lt_of_cell? W _ c9
  have hk1 : Kept [R] W Wc := by rw [← hWc]; exact kept_setCell (by simp) _ _ _
  have hp1 : RVal nf (memB [R] Wc) (.pointer (some ⟨pb, 0, none⟩)) (inputV s) := hp.mono (Ext.of hk1).mem
  have hc1 : Wc.cell? ⟨R, 0, none⟩ = some (.pointer (some ⟨Wc.heap.size + 1 + 1, 0, none⟩)) := by rw [← hWc, size_setCell]; exact World.cell?_setCell_same _ _ _ c9
  have hz1 : Wc.frozen? ⟨R, 0, none⟩ = false := by rw [← hWc, World.frozen?_setCell]; exact z9
  have ho1 : KeepsOthers W Wc := by rw [← hWc]; exact KeepsOthers.setCell _ _ _
  rw [hWc, ← hsz]
  have hn : I64 (w31 y) := by have := w31_lo y; have := w31_hi y; unfold I64; omega
  have hv := cons_new hp1 (by omega) (w31 y) hn t1 t2
  have hb : Below Wc.heap.size Wc ((((Wc.alloc (.cells #[.int .i64 1, .int .i64 (w31 y), .slice none 0 0] t1)).alloc (.cells #[.pointer (some ⟨Wc.heap.size, 0, none⟩), .pointer (some ⟨pb, 0, none⟩)] t2)).alloc (.cells #[.int .i64 2, .int .i64 1, .slice (some ⟨Wc.heap.size + 1, 0, none⟩) 2 2] t1)).drew) :=
    (bgo (bgo (below_box _ _) (below_box _ _)) (below_box _ _)).drew
  have hlt : R < Wc.heap.size := by omega
  refine ⟨((((ho1.trans (KeepsOthers.alloc _ _)).trans (KeepsOthers.alloc _ _)).trans (KeepsOthers.alloc _ _)).trans (KeepsOthers.drew _)).from _, fun k hk0 hne => ?_, ⟨⟨_, (hb.cell hlt).trans hc1, hv⟩, frozen_below hb hlt hz1⟩, hk.trans (hk1.trans (Kept.below hb))⟩
  have hkl : k < W.heap.size := Nat.lt_of_lt_of_le hk0 hk.size
  exact (hb.block k (by omega)).trans (hk1.block k hkl (by simpa using hne))
theorem Pushed.kept0 {base : Nat} {e : TypeId} {w w' : World} {v v' : Value} {n : Nat} {xs : List Value} (h : Pushed base e w w' v v' n xs) : Kept v.ownBlock.toList w w' := ⟨h.gr.os, h.gr.tape, h.gr.output, h.gr.size, fun k hk hn => h.gr.block k hk (fun e => hn (by rw [← e]; simp))⟩
theorem infoMp : (Try.prog.info? 52).map (fun i => (i.zero, i.size, i.bytes)) = some (some (.map none), 1, 8) := by kernel_rfl
/-- The machine's block: its cells. -/
def mch0 (fb : Option Addr) (nf fc : Nat) (main fuel : Int) : List Value := [.int .i64 0, .int .i64 0, .int .i64 0, .slice fb nf fc, .int .i64 main, .slice none 0 0, .int .i64 fuel, .slice none 0 0, .slice none 0 0]
/-- The variables' places, for the first j functions. -/
structure VarsIn (f : Flat) (cs : List Value) (M : Nat) (WM wr : World) (j : Nat) (vv : Value) : Prop where
  kept : Kept [M] WM wr
  ltM : M < WM.heap.size
  m5 : wr.cell? ⟨M, 5, none⟩ = some vv
  cs : ∀ k v, k ≠ 5 → cs[k]? = some v → wr.cell? ⟨M, k, none⟩ = some v
  fz : ∀ k, wr.frozen? ⟨M, k, none⟩ = false
  row : ∃ ms : List Value, wr.ownsRow WM.heap.size 52 1 vv j ms ∧ ∀ i (h : i < j), ∃ mb, ms[i]? = some (.map (some mb)) ∧ (∀ hi : i < f.funs.length, IMap wr mb (numbered (placesF f.funs[i]))) ∧ WM.heap.size ≤ mb ∧ vv.ownBlock ≠ some mb
theorem VarsIn.start {f : Flat} {cs : List Value} {W : World} (hc5 : cs[5]? = some (.slice none 0 0)) (t : TypeId) {M : Nat} (hM : M = W.heap.size) {WM : World} (hW : WM = W.alloc (.cells cs.toArray t)) : VarsIn f cs M WM WM 0 (.slice none 0 0) := by
  subst hM; subst hW
  have hb := BoxAt.new W cs t
  exact ⟨Kept.refl _ _, hb.1, hb.2 5 _ hc5, fun k v _ h => hb.2 k v h, fun k => frozen_cells (arr := cs.toArray) (t := t) (by rw [heap_alloc_new]) k, [], World.ownsRow_nil _ _ _ _, fun i h => by omega⟩
/-- One function's places more. -/
theorem VarsIn.next {f : Flat} {cs : List Value} {M : Nat} {WM wr w1 w2 w3 : World} {j : Nat} {vv v' : Value} (h : VarsIn f cs M WM wr j vv) (hj : j < f.funs.length) (hb1 : Below wr.heap.size wr w1) {mb : Nat} (hI : IMap w1 mb (numbered (placesF f.funs[j]))) (hmb : wr.heap.size ≤ mb) (hb2 : Below w1.heap.size w1 w2) {ms : List Value}
    (hms : wr.ownsRow WM.heap.size 52 1 vv j ms) (hmsr : ∀ i (h : i < j), ∃ mb, ms[i]? = some (.map (some mb)) ∧ (∀ hi : i < f.funs.length, IMap wr mb (numbered (placesF f.funs[i]))) ∧ WM.heap.size ≤ mb ∧ vv.ownBlock ≠ some mb)
    (hp : Pushed WM.heap.size 52 w2 w3 vv v' (j + 1) (ms ++ [.map (some mb)])) {w4 : World} (e : w4 = w3.setCell ⟨M, 5, none⟩ v') : VarsIn f cs M WM w4 (j + 1) v' := by
  subst e
  have hb := bgo hb1 hb2
  have hMr := Nat.lt_of_lt_of_le h.ltM h.kept.size
  have hown := fun k (hk : vv.ownBlock = some k) => hms.lt k hk
  have hMo : vv.ownBlock ≠ some M := fun e => by have := (hown M e).1; have := h.ltM; omega
  have hmo : vv.ownBlock ≠ some mb := fun e => by have := (hown mb e).2; omega
  have hI2 := hI.below hb2
  have hM2 := Nat.lt_of_lt_of_le hMr hb.size
  have hMb := hp.gr.block M hM2 (fun e => hMo e.symm)
  have hc3 : ∀ k v, wr.cell? ⟨M, k, none⟩ = some v → w3.cell? ⟨M, k, none⟩ = some v := fun k v hv => (blk_cell hMb k).trans ((hb.cell hMr).trans hv)
  have hzk : ∀ k, w3.frozen? ⟨M, k, none⟩ = false := fun k => (World.frozen?_of_block (a := ⟨M, k, none⟩) hMb).trans (frozen_below hb hMr (h.fz k))
  have hk4 : Kept [M] w3 (w3.setCell ⟨M, 5, none⟩ v') := kept_setCell (by simp) w3 5 v'
  have hlenms : ms.length = j := by have := hms.1; omega
  have hvo : ∀ k, v'.ownBlock = some k → WM.heap.size ≤ k ∧ k < w3.heap.size := fun k hk => hp.own.lt k hk
  have hMo' : v'.ownBlock ≠ some M := fun e => by have := (hvo M e).1; have := h.ltM; omega
  refine ⟨?_, h.ltM, World.cell?_setCell_same _ _ _ (hc3 5 _ h.m5), fun k v hk hv => ?_, fun k => by rw [World.frozen?_setCell]; exact hzk k, ms ++ [.map (some mb)], ownsRow_setCell_other hp.own hMo' _, fun i hi => ?_⟩
  · refine ⟨hk4.os.trans (hp.gr.os.trans (hb.os.trans h.kept.os)), hk4.tape.trans (hp.gr.tape.trans (hb.tape.trans h.kept.tape)), hk4.output.trans (hp.gr.output.trans (hb.output.trans h.kept.output)), Nat.le_trans h.kept.size (Nat.le_trans hb.size (Nat.le_trans hp.gr.size hk4.size)), fun k hk hs => ?_⟩
    have hkr := Nat.lt_of_lt_of_le hk h.kept.size
    exact (hk4.block k (Nat.lt_of_lt_of_le (Nat.lt_of_lt_of_le hkr hb.size) hp.gr.size) hs).trans ((hp.gr.block k (Nat.lt_of_lt_of_le hkr hb.size) (fun e => by have := (hown k e.symm).1; omega)).trans ((hb.block k hkr).trans (h.kept.block k hk hs)))
  · exact (World.cell?_setCell_other _ _ _ _ (fun e => hk (by have : 5 = k := congrArg Addr.off e; omega))).trans (hc3 k v (h.cs k v hk hv))
  · have hset : ∀ b es, b ≠ M → IMap w3 b es → IMap (w3.setCell ⟨M, 5, none⟩ v') b es := fun b es hb' hI => hI.same (Below.heap_setCell w3 ⟨M, 5, none⟩ _ b hb')
    by_cases hij : i < j
    · obtain ⟨m, h1, h2, h3, h4⟩ := hmsr i hij
      refine ⟨m, by rw [List.getElem?_append_left (by omega)]; exact h1, fun hi' => ?_, h3, fun e => ?_⟩
      · have hm := h2 hi'
        exact hset _ _ (by have := h.ltM; omega) ((hm.below hb).same (hp.gr.block m (hm.below hb).lt (fun e => h4 e.symm)))
      · rcases hp.new m e with h5 | h5
        · exact h4 h5
        · have := (h2 (by omega)).lt; have := hb.size; omega
    · have hij' : i = j := by omega
      subst hij'
      refine ⟨mb, by rw [List.getElem?_append_right (by omega)]; simp [hlenms], fun _ => hset _ _ (by omega) (hI2.same (hp.gr.block mb hI2.lt (fun e => hmo e.symm))), Nat.le_trans h.kept.size hmb, fun e => ?_⟩
      rcases hp.new mb e with h5 | h5
      · exact hmo h5
      · have := hI2.lt; omega
theorem ctx_ok {m : Mp} {f : Flat} {fb : Option Addr} {fc : Nat} {fuel : Int} {w WM wr : World} {M : Nat} {vv : Value} (hg : goodFlat f = true) (hf : RFuns m (.slice fb f.funs.length fc) f.funs) (hm : Ag m w) (hb : Below w.heap.size w wr) (hM : w.heap.size ≤ M) (h2 : 0 ≤ fuel) (h3 : fuel ≤ 1048576)
    (hV : VarsIn f (mch0 fb f.funs.length fc f.main fuel) M WM wr f.funs.length vv) : ∃ c : Ctx, c.Ok ∧ c.m0 = m ∧ c.M = M ∧ c.f = f ∧ c.w1 = wr ∧ c.fuel = fuel.toNat ∧ Mch c wr [c.M] 0 ⟨0, 0, []⟩ (.slice none 0 0) (.slice none 0 0) [] := by
  obtain ⟨ms, hms, hmsr⟩ := hV.row
  have G := goodFlat_F hg
  have hpos := G.pos
  obtain ⟨g, cap, rfl⟩ := ownsRow_some hms hpos
  have hgl := hms.lt g rfl
  have hltM := hV.ltM
  have hcp : f.funs.length ≤ cap := by
    rcases hms.2 with ⟨_, h⟩ | ⟨_, _, _, e, _, _, h, _⟩
    · omega
    · injection e with e1 e2 e3; omega
  have hlen : ms.length = f.funs.length := by have := hms.1; omega
  have hMr : M < wr.heap.size := Nat.lt_of_lt_of_le hltM hV.kept.size
  refine ⟨⟨m, M, f, fb, fc, fuel.toNat, wr, g, cap, fun i => match ms[i]? with | some (.map (some b)) => b | _ => 0⟩, ⟨hm.later hb, fun a v ha => ?_, hMr, hg, hf, ?_, ?_, hcp, by have := G.most; show f.funs.length ≤ _; omega, by show fuel.toNat ≤ _; omega, fun i hi => ?_⟩, rfl, rfl, rfl, rfl, rfl, ?_⟩
  · have := World.block_lt_of_cell? w a (hm a v ha)
    show a.block ≠ M
    omega
  · have := G.m0; have := G.m1; have := G.most; show I64 f.main; unfold I64; omega
  · show g ≠ M; omega
  · obtain ⟨mb, e1, e2, e3, e4⟩ := hmsr i hi
    show wr.cell? ⟨g, i, none⟩ = some (.map (some (match ms[i]? with | some (.map (some b)) => b | _ => 0))) ∧ IMap wr (match ms[i]? with | some (.map (some b)) => b | _ => 0) (numbered (placesF f.funs[i])) ∧ (match ms[i]? with | some (.map (some b)) => b | _ => 0) ≠ M ∧ (placesF f.funs[i]).Nodup
    rw [e1]
    have hcl := hms.cells rfl i _ e1
    rw [show (⟨g, 0, none⟩ : Addr).add i = ⟨g, 0 + i, none⟩ from by cases i <;> simp [Addr.add], Nat.zero_add] at hcl
    exact ⟨hcl, e2 hi, by show mb ≠ M; omega, (goodFun_parts (G.funs i hi)).2.2.2.2.1⟩
  · have hc := hV.cs
    have h5 := hV.m5
    refine ⟨Kept.refl _ _, by simp, fun k hk => .inl (by simpa using hk), hc 0 _ (by omega) rfl, hc 1 _ (by omega) rfl, hc 2 _ (by omega) rfl, hc 3 _ (by omega) rfl, hc 4 _ (by omega) rfl, h5, ?_, hc 7 _ (by omega) rfl, hc 8 _ (by omega) rfl, hV.fz, World.ownsRow_nil _ _ _ _, World.ownsRow_nil _ _ _ _, by simp [Value.ownBlock], by simp [Value.ownBlock], .inl rfl, by simp, by simp, by simp, by simp⟩
    have h6 := hc 6 (.int .i64 fuel) (by omega) rfl
    show wr.cell? ⟨M, 6, none⟩ = some (.int .i64 ((fuel.toNat : Nat) : Int))
    rw [Int.toNat_of_nonneg h2]; exact h6
theorem Mch.noShows {c : Ctx} {w : World} {S : List Nat} {steps : Nat} {s : St} {vw vs : Value} {sh : List Int} (h : Mch c w S steps s vw vs sh) (ok : c.Ok) : Mch c (w.setCell ⟨c.M, 8, none⟩ (.slice none 0 0)) S steps s vw (.slice none 0 0) [] := by
  obtain ⟨r1, r2⟩ := h.rowNe ok
  have ho : ∀ j, j ≠ 8 → (w.setCell ⟨c.M, 8, none⟩ (.slice none 0 0)).cell? ⟨c.M, j, none⟩ = w.cell? ⟨c.M, j, none⟩ := fun j hj => World.cell?_setCell_other _ _ _ _ (by simp <;> omega)
  exact ⟨h.kept.trans (kept_setCell (by simp) _ _ _), h.inS, h.newS, (ho 0 (by omega)).trans h.c0, (ho 1 (by omega)).trans h.c1, (ho 2 (by omega)).trans h.c2, (ho 3 (by omega)).trans h.c3, (ho 4 (by omega)).trans h.c4, (ho 5 (by omega)).trans h.c5, (ho 6 (by omega)).trans h.c6, (ho 7 (by omega)).trans h.c7, World.cell?_setCell_same _ _ _ h.c8,
    fun j => by rw [World.frozen?_setCell]; exact h.fz j, ownsRow_setCell_other h.ownW r1 _, World.ownsRow_nil _ _ _ _, h.rowW, by simp [Value.ownBlock], by cases vw.ownBlock <;> simp [Value.ownBlock], h.i64W, by simp, h.lenW, by simp⟩
/-- What the machine holds, told, in a world in which but the result's block is as it was. -/
theorem told_of {c : Ctx} {w w5 w8 : World} {S : List Nat} {steps : Nat} {s : St} {vw vs : Value} {sh : List Int} {R M : Nat} (h : Mch c w5 S steps s vw vs sh) (hM : c.M = M) (hR : R < c.w1.heap.size) (hRM : R ≠ M) (hk : Kept [R] w5 w8) (hw : w.heap.size ≤ c.w1.heap.size) :
    RInts (newM w w8) vw s.writes ∧ RInts (newM w w8) vs sh ∧ w8.cell? ⟨M, 0, none⟩ = some (.int .i64 steps) ∧ w8.cell? ⟨M, 1, none⟩ = some (.int .i64 s.made) ∧ w8.cell? ⟨M, 2, none⟩ = some (.int .i64 s.work) := by
  subst hM
  have hn : R ∉ S := fun hm => (h.newS R hm).elim hRM (fun h2 => by omega)
  have lw := h.lenW
  have ls := h.lenS
  exact ⟨rints_of (ownsRow_kept h.ownW hk (fun e => hn (h.rowW _ e))) h.i64W (by omega) hw, rints_of (ownsRow_kept h.ownS hk (fun e => hn (h.rowS _ e))) h.i64S (by omega) hw, hk.cell h.c0 (by simpa using hRM.symm), hk.cell h.c1 (by simpa using hRM.symm), hk.cell h.c2 (by simpa using hRM.symm)⟩
theorem outOf_stuck {fin : Fin'} (h : fin.stuck = true) : outOf fin = ⟨0, [], [], fin.steps, fin.s.made, fin.s.work, 250⟩ := by unfold outOf; rw [if_pos h]
theorem outOf_done {fin : Fin'} (h : fin.stuck = false) (he : fin.e = 1) : outOf fin = ⟨fin.e, fin.s.writes, fin.shows, fin.steps, fin.s.made, fin.s.work, 0⟩ := by unfold outOf; rw [if_neg (by rw [h]; decide), if_pos he]
theorem outOf_else {fin : Fin'} (h : fin.stuck = false) (he : ¬ fin.e = 1) : outOf fin = ⟨fin.e, fin.s.writes, [], fin.steps, fin.s.made, fin.s.work, 0⟩ := by unfold outOf; rw [if_neg (by rw [h]; decide), if_neg he]
end Go.Proofs.Ytimljadlfhccpaa
set_option linter.all false
set_option linter.all false
set_option linter.all false
namespace Go.Proofs.Ytimljadlfhccpaa
open Go.RowKit
set_option maxHeartbeats 1000000

def RunTold (t : Out) (w : World) (e : Ending) (w' : World) : Prop := ∃ vw vs, e = .returned (.tuple #[.agg #[.int .i64 t.e, vw, vs], .int .i64 t.err]) ∧ Below w.heap.size w w' ∧ RInts (newM w w') vw t.writes ∧ RInts (newM w w') vs t.shows
theorem rints_slice {m : Mp} {v : Value} {l : List Int} (h : RInts m v l) : ∃ a n c, v = .slice a n c := by
  obtain ⟨⟨a, c, rfl, _⟩, _⟩ := h
  exact ⟨a, _, c, rfl⟩
end Go.Proofs.Ytimljadlfhccpaa
set_option linter.all false
set_option linter.all false
set_option linter.all false
namespace Go.Proofs.Ytimljadlfhccpaa
open Go.RowKit
set_option maxHeartbeats 4000000

def plainF : Flat := ⟨[(0, [0], .mk 2 1 3 false [] [⟨true, 0⟩, ⟨false, 7⟩] [] [.mk 8 0 0 false [] [⟨true, 1⟩] [] []])], 0⟩
theorem out_eq (o : Out) {e : Int} {ws sh : List Int} {st md wk : Nat} {er : Int} (h1 : o.e = e) (h2 : o.writes = ws) (h3 : o.shows = sh) (h4 : o.steps = st) (h5 : o.made = md) (h6 : o.work = wk) (h7 : o.err = er) : o = ⟨e, ws, sh, st, md, wk, er⟩ := by
  cases o
  simp only at h1 h2 h3 h4 h5 h6 h7
  subst h1 h2 h3 h4 h5 h6 h7
  rfl
theorem plain_runs : runF plainF [] 5 = ⟨1, [], [3, 0, 7], 0, 3, 2, 0⟩ := out_eq _ (by decide +kernel) (by decide +kernel) (by decide +kernel) (by decide +kernel) (by decide +kernel) (by decide +kernel) (by decide +kernel)
set_option maxRecDepth 100000 in
theorem plain22 (w : World) : Calls Try.prog 18 #[] w fun e w' => ∃ ab, e = .returned (.agg #[.int .i64 8, .int .i64 0, .int .i64 0, .bool false, .slice none 0 0, .slice (some ⟨ab, 0, none⟩) 1 1, .slice none 0 0, .slice none 0 0]) ∧ Below w.heap.size w w' := by
  go_enter Try.func18, Try.ntmps18
  go_wp2_with fail
  refine bodyPost_ret (v := .agg #[.int .i64 8, .int .i64 0, .int .i64 0, .bool false, .slice none 0 0, .slice (some ⟨w.heap.size + 1, 0, none⟩) 1 1, .slice none 0 0, .slice none 0 0]) (by simp [results, Try.results18, go_sem]) rfl ?_
  exact ⟨_, rfl, bgo (below_box _ _) (below_box _ _)⟩
def PlainPost (w : World) (e : Ending) (w' : World) : Prop := ∃ fb pb ab : Nat, e = .returned (.agg #[.slice (some ⟨fb, 0, none⟩) 1 1, .int .i64 0]) ∧ Below w.heap.size w w' ∧ w.heap.size ≤ fb ∧ w.heap.size ≤ pb ∧ pb < fb ∧ w'.cell? ⟨pb, 0, none⟩ = some (.int .i64 0) ∧ (∀ k, w'.frozen? ⟨fb, k, none⟩ = false) ∧
  BoxAt fb w' [.int .i64 0, .slice (some ⟨pb, 0, none⟩) 1 1, .int .i64 8, .int .i64 0, .int .i64 0, .bool false, .slice none 0 0, .slice (some ⟨ab, 0, none⟩) 1 1, .slice none 0 0, .slice none 0 0]
set_option maxRecDepth 100000 in
theorem plain25 (w : World) : Calls Try.prog 20 #[] w (PlainPost w) := by
  go_enter Try.func20, Try.ntmps20
  go_wp2_with (go_at_call 18; refine (plain22 _).mono ?_; rintro e w1 ⟨ab, rfl, hb1⟩; obtain ⟨gb, gz⟩ := new_cells (cs := [.slice none 0 0, .int .i64 0]) (bgo (below_box _ _) hb1) (b := w.heap.size) (by simp); obtain ⟨kb, kz⟩ := new_cells (cs := [.int .i64 0]) hb1 (b := w.heap.size + 1) (by simp); have g0 := gb.2 0 _ rfl; have g1 := gb.2 1 _ rfl; have z0 := gz 0; have z1 := gz 1; have k0 := kb.2 0 _ rfl; have gs := gb.1; have gs1 := kb.1; have gn0 : ¬ w.heap.size = w1.heap.size := (by omega); have HB1 := Lib.hid hb1; clear gb gz kb kz hb1)
  have gx := new_cells (W := (w1.setCell ⟨w.heap.size, 0, none⟩ (.slice (some ⟨w1.heap.size, 0, none⟩) 1 1)).setCell ⟨w.heap.size, 1, none⟩ (.int .i64 0)) (cs := [.int .i64 0, .slice (some ⟨w.heap.size + 1, 0, none⟩) 1 1, .int .i64 8, .int .i64 0, .int .i64 0, .bool false, .slice none 0 0, .slice (some ⟨ab, 0, none⟩) 1 1, .slice none 0 0, .slice none 0 0]) (t := 42) (b := w1.heap.size) (Below.refl _ _) (by simp)
  have hk1 : Kept [w.heap.size] w1 ((w1.setCell ⟨w.heap.size, 0, none⟩ (.slice (some ⟨w1.heap.size, 0, none⟩) 1 1)).setCell ⟨w.heap.size, 1, none⟩ (.int .i64 0)) := (kept_setCell (by simp) w1 0 _).trans (kept_setCell (by simp) _ 1 _)
  have hkk := hk1.trans (Kept.below (below_box _ (.cells #[.int .i64 0, .slice (some ⟨w.heap.size + 1, 0, none⟩) 1 1, .int .i64 8, .int .i64 0, .int .i64 0, .bool false, .slice none 0 0, .slice (some ⟨ab, 0, none⟩) 1 1, .slice none 0 0, .slice none 0 0] 42)))
  have hbel : Below w.heap.size w w1 := bgo (bgo (below_box _ _) (below_box _ _)) HB1.out
  refine bodyPost_ret (v := .agg #[.slice (some ⟨w1.heap.size, 0, none⟩) 1 1, .int .i64 0]) (by simp [results, Try.results20, go_sem, g0, g1, gs, gn0]) rfl ?_
  exact ⟨w1.heap.size, w.heap.size + 1, ab, rfl, hbel.trans (hkk.toBelow hbel.size (by simp)), by omega, by omega, gs1, hkk.cell k0 (by simp), gx.2, gx.1⟩
/-- The small program, in memory. -/
structure PlainAt (M : Mp) (fb pb a1 a2 n1 : Nat) : Prop where
  f : ∀ k v, [Value.int .i64 0, .slice (some ⟨pb, 0, none⟩) 1 1, .int .i64 2, .int .i64 1, .int .i64 3, .bool false, .slice none 0 0, .slice (some ⟨a1, 0, none⟩) 2 2, .slice none 0 0, .slice (some ⟨n1, 0, none⟩) 1 1][k]? = some v → M ⟨fb, k, none⟩ = some v
  p : M ⟨pb, 0, none⟩ = some (.int .i64 0)
  a : ∀ k v, [Value.bool true, .int .i64 0, .bool false, .int .i64 7][k]? = some v → M ⟨a1, k, none⟩ = some v
  b : ∀ k v, [Value.bool true, .int .i64 1][k]? = some v → M ⟨a2, k, none⟩ = some v
  n : ∀ k v, [Value.int .i64 8, .int .i64 0, .int .i64 0, .bool false, .slice none 0 0, .slice (some ⟨a2, 0, none⟩) 1 1, .slice none 0 0, .slice none 0 0][k]? = some v → M ⟨n1, k, none⟩ = some v
theorem i64_small (n : Int) (h : 0 ≤ n) (h2 : n < 100) : I64 n := ⟨by omega, by omega⟩
theorem ratoms_nil (m : Mp) : RAtoms m (.slice none 0 0) [] := ⟨⟨none, 0, rfl, by simp, by simp, by simp⟩, by simp⟩
theorem PlainAt.flat {M : Mp} {fb pb a1 a2 n1 : Nat} (h : PlainAt M fb pb a1 a2 n1) : RFlat M (.slice (some ⟨fb, 0, none⟩) 1 1) plainF := by
  refine ⟨⟨⟨fun _ => [Value.int .i64 0, .slice (some ⟨pb, 0, none⟩) 1 1, .int .i64 2, .int .i64 1, .int .i64 3, .bool false, .slice none 0 0, .slice (some ⟨a1, 0, none⟩) 2 2, .slice none 0 0, .slice (some ⟨n1, 0, none⟩) 1 1], fun _ => [.int .i64 2, .int .i64 1, .int .i64 3, .bool false, .slice none 0 0, .slice (some ⟨a1, 0, none⟩) 2 2, .slice none 0 0, .slice (some ⟨n1, 0, none⟩) 1 1], fun _ => .slice (some ⟨pb, 0, none⟩) 1 1, ?_, ?_, ?_⟩⟩, i64_small 0 (by omega) (by omega)⟩
  · refine ⟨some ⟨fb, 0, none⟩, 1, rfl, by simp [plainF], by simp [plainF], fun _ => ⟨fb, 0, rfl, fun i hi => ⟨rfl, fun k v hk => ?_⟩⟩⟩
    obtain rfl : i = 0 := by simp [plainF] at hi; exact hi
    simpa using h.f k v hk
  · intro i f hf
    match i, hf with
    | 0, hf =>
      simp [plainF] at hf
      subst hf
      refine ⟨rfl, ⟨⟨some ⟨pb, 0, none⟩, 1, rfl, by simp, by simp, fun _ => ⟨pb, 0, rfl, fun i hi => ⟨rfl, fun k v hk => ?_⟩⟩⟩, fun x hx => ?_⟩, i64_small 0 (by omega) (by omega)⟩
      · obtain rfl : i = 0 := by simp at hi; exact hi
        match k, hk with
        | 0, hk => simp at hk; subst hk; exact h.p
      · simp at hx; subst hx; exact i64_small 0 (by omega) (by omega)
  · intro i f hf
    match i, hf with
    | 0, hf =>
      simp [plainF] at hf
      subst hf
      refine .mk 2 1 3 false [] [⟨true, 0⟩, ⟨false, 7⟩] [] [.mk 8 0 0 false [] [⟨true, 1⟩] [] []] _ _ _ _ (fun _ => []) (fun _ => [.int .i64 8, .int .i64 0, .int .i64 0, .bool false, .slice none 0 0, .slice (some ⟨a2, 0, none⟩) 1 1, .slice none 0 0, .slice none 0 0]) (fun _ => []) (fun _ => .bool false) (i64_small _ (by omega) (by omega)) (i64_small _ (by omega) (by omega)) (i64_small _ (by omega) (by omega)) (RInts.nil M) ?_ ⟨none, 0, rfl, by simp, by simp, by simp⟩ ?_ (by simp) (by simp) ?_
      · refine ⟨⟨some ⟨a1, 0, none⟩, 2, rfl, by simp, by simp, fun _ => ⟨a1, 0, rfl, fun i hi => ⟨rfl, fun k v hk => ?_⟩⟩⟩, fun x hx => ?_⟩
        · match i, k, hk with
          | 0, 0, hk => exact h.a 0 v hk
          | 0, 1, hk => exact h.a 1 v hk
          | 1, 0, hk => exact h.a 2 v hk
          | 1, 1, hk => exact h.a 3 v hk
          | n + 2, k, hk => exact absurd (show n + 2 < 2 from hi) (by omega)
        · simp at hx
          rcases hx with rfl | rfl <;> exact i64_small _ (by simp) (by simp)
      · refine ⟨some ⟨n1, 0, none⟩, 1, rfl, by simp, by simp, fun _ => ⟨n1, 0, rfl, fun i hi => ⟨rfl, fun k v hk => ?_⟩⟩⟩
        obtain rfl : i = 0 := by simp at hi; exact hi
        simpa using h.n k v hk
      · intro i t ht
        match i, ht with
        | 0, ht =>
          simp at ht
          subst ht
          refine .mk 8 0 0 false [] [⟨true, 1⟩] [] [] _ _ _ _ (fun _ => []) (fun _ => []) (fun _ => []) (fun _ => .bool false) (i64_small _ (by omega) (by omega)) (i64_small _ (by omega) (by omega)) (i64_small _ (by omega) (by omega)) (RInts.nil M) ?_ ⟨none, 0, rfl, by simp, by simp, by simp⟩ ⟨none, 0, rfl, by simp, by simp, by simp⟩ (by simp) (by simp) (by simp)
          refine ⟨⟨some ⟨a2, 0, none⟩, 1, rfl, by simp, by simp, fun _ => ⟨a2, 0, rfl, fun i hi => ⟨rfl, fun k v hk => ?_⟩⟩⟩, fun x hx => ?_⟩
          · match i, k, hk with
            | 0, 0, hk => exact h.b 0 v hk
            | 0, 1, hk => exact h.b 1 v hk
            | n + 1, k, hk => simp at hi
          · simp at hx; subst hx; exact i64_small _ (by simp) (by simp)
theorem gen_world {P : Program} {n : FuncId} {args : Array Value} {W : World} {Q : Ending → World → Prop} (F : World → Prop) (h1 : F W) (h2 : ∀ W', F W' → Calls P n args W' Q) : Calls P n args W Q := h2 W h1
/-- What stands where the small program is run. -/
structure WkAt (w : World) (fb pb b : Nat) (W : World) : Prop where
  bel : Below w.heap.size w W
  at_ : PlainAt (newM w W) fb pb (b + 1) (b + 1 + 1) (b + 1 + 1 + 1)
  c0 : W.cell? ⟨b, 0, none⟩ = some (.slice (some ⟨fb, 0, none⟩) 1 1)
  c1 : W.cell? ⟨b, 1, none⟩ = some (.int .i64 0)
set_option maxRecDepth 100000 in
theorem wkAt_of {w w1 : World} {fb pb ab : Nat} (hb1 : Below w.heap.size w w1) (hf1 : w.heap.size ≤ fb) (hp1 : w.heap.size ≤ pb) (hpf : pb < fb) (hpc : w1.cell? ⟨pb, 0, none⟩ = some (.int .i64 0)) (gx : BoxAt fb w1 [.int .i64 0, .slice (some ⟨pb, 0, none⟩) 1 1, .int .i64 8, .int .i64 0, .int .i64 0, .bool false, .slice none 0 0, .slice (some ⟨ab, 0, none⟩) 1 1, .slice none 0 0, .slice none 0 0]) :
    WkAt w fb pb w1.heap.size ((((((((((((w1.setCell ⟨fb, 2, none⟩ (.int .i64 2)).setCell ⟨fb, 3, none⟩ (.int .i64 1)).setCell ⟨fb, 4, none⟩ (.int .i64 3)).setCell ⟨fb, 5, none⟩ (.bool false)).setCell ⟨fb, 6, none⟩ (.slice none 0 0)).setCell ⟨fb, 7, none⟩ (.slice (some ⟨w1.heap.size + 1, 0, none⟩) 2 2)).setCell ⟨fb, 8, none⟩ (.slice none 0 0)).setCell ⟨fb, 9, none⟩ (.slice (some ⟨w1.heap.size + 1 + 1 + 1, 0, none⟩) 1 1)).alloc (.cells #[.slice (some ⟨fb, 0, none⟩) 1 1, .int .i64 0] 24)).alloc
      (.cells #[.bool true, .int .i64 0, .bool false, .int .i64 7] 76)).alloc (.cells #[.bool true, .int .i64 1] 76)).alloc (.cells #[.int .i64 8, .int .i64 0, .int .i64 0, .bool false, .slice none 0 0, .slice (some ⟨w1.heap.size + 1 + 1, 0, none⟩) 1 1, .slice none 0 0, .slice none 0 0] 34)) := by
  have f0 := gx.2 0 _ rfl
  have f1 := gx.2 1 _ rfl
  have f2 := gx.2 2 _ rfl
  have f3 := gx.2 3 _ rfl
  have f4 := gx.2 4 _ rfl
  have f5 := gx.2 5 _ rfl
  have f6 := gx.2 6 _ rfl
  have f7 := gx.2 7 _ rfl
  have f8 := gx.2 8 _ rfl
  have f9 := gx.2 9 _ rfl
  have ltf := gx.1
  have hs1 := hb1.size
  obtain ⟨W8, h8, c2, c3, c4, c5, c6, c7, c8, c9⟩ : ∃ W8, W8 = ((((((((w1.setCell ⟨fb, 2, none⟩ (.int .i64 2)).setCell ⟨fb, 3, none⟩ (.int .i64 1)).setCell ⟨fb, 4, none⟩ (.int .i64 3)).setCell ⟨fb, 5, none⟩ (.bool false)).setCell ⟨fb, 6, none⟩ (.slice none 0 0)).setCell ⟨fb, 7, none⟩ (.slice (some ⟨w1.heap.size + 1, 0, none⟩) 2 2)).setCell ⟨fb, 8, none⟩ (.slice none 0 0)).setCell ⟨fb, 9, none⟩ (.slice (some ⟨w1.heap.size + 1 + 1 + 1, 0, none⟩) 1 1)) ∧
      W8.cell? ⟨fb, 2, none⟩ = some (.int .i64 2) ∧ W8.cell? ⟨fb, 3, none⟩ = some (.int .i64 1) ∧ W8.cell? ⟨fb, 4, none⟩ = some (.int .i64 3) ∧ W8.cell? ⟨fb, 5, none⟩ = some (.bool false) ∧ W8.cell? ⟨fb, 6, none⟩ = some (.slice none 0 0) ∧ W8.cell? ⟨fb, 7, none⟩ = some (.slice (some ⟨w1.heap.size + 1, 0, none⟩) 2 2) ∧ W8.cell? ⟨fb, 8, none⟩ = some (.slice none 0 0) ∧ W8.cell? ⟨fb, 9, none⟩ = some (.slice (some ⟨w1.heap.size + 1 + 1 + 1, 0, none⟩) 1 1) := by
    refine ⟨_, rfl, ?_, ?_, ?_, ?_, ?_, ?_, ?_, ?_⟩ <;> simp [go_sem, f2, f3, f4, f5, f6, f7, f8, f9]
  have hk : Kept [fb] w1 W8 := by
    rw [h8]
    exact (((((((kept_setCell (by simp) w1 2 _).trans (kept_setCell (by simp) _ 3 _)).trans (kept_setCell (by simp) _ 4 _)).trans (kept_setCell (by simp) _ 5 _)).trans (kept_setCell (by simp) _ 6 _)).trans (kept_setCell (by simp) _ 7 _)).trans (kept_setCell (by simp) _ 8 _)).trans (kept_setCell (by simp) _ 9 _)
  have hsz : W8.heap.size = w1.heap.size := by rw [h8]; simp only [size_setCell]
  have e0 : W8.cell? ⟨fb, 0, none⟩ = some (.int .i64 0) := by rw [h8]; simp [go_sem, f0]
  have e1 : W8.cell? ⟨fb, 1, none⟩ = some (.slice (some ⟨pb, 0, none⟩) 1 1) := by rw [h8]; simp [go_sem, f1]
  have ep : W8.cell? ⟨pb, 0, none⟩ = some (.int .i64 0) := hk.cell hpc (by simp; omega)
  rw [← h8]
  clear h8
  have b1 := below_box W8 (.cells #[.slice (some ⟨fb, 0, none⟩) 1 1, .int .i64 0] 24)
  have B0 := BoxAt.new' W8 [.slice (some ⟨fb, 0, none⟩) 1 1, .int .i64 0] 24 w1.heap.size hsz.symm
  have b2 := below_box (W8.alloc (.cells #[.slice (some ⟨fb, 0, none⟩) 1 1, .int .i64 0] 24)) (.cells #[.bool true, .int .i64 0, .bool false, .int .i64 7] 76)
  have B1 := BoxAt.new' (W8.alloc (.cells #[.slice (some ⟨fb, 0, none⟩) 1 1, .int .i64 0] 24)) [.bool true, .int .i64 0, .bool false, .int .i64 7] 76 (w1.heap.size + 1) (by simp [hsz])
  have b3 := below_box ((W8.alloc (.cells #[.slice (some ⟨fb, 0, none⟩) 1 1, .int .i64 0] 24)).alloc (.cells #[.bool true, .int .i64 0, .bool false, .int .i64 7] 76)) (.cells #[.bool true, .int .i64 1] 76)
  have B2 := BoxAt.new' ((W8.alloc (.cells #[.slice (some ⟨fb, 0, none⟩) 1 1, .int .i64 0] 24)).alloc (.cells #[.bool true, .int .i64 0, .bool false, .int .i64 7] 76)) [.bool true, .int .i64 1] 76 (w1.heap.size + 1 + 1) (by simp [hsz])
  have b4 := below_box (((W8.alloc (.cells #[.slice (some ⟨fb, 0, none⟩) 1 1, .int .i64 0] 24)).alloc (.cells #[.bool true, .int .i64 0, .bool false, .int .i64 7] 76)).alloc (.cells #[.bool true, .int .i64 1] 76)) (.cells #[.int .i64 8, .int .i64 0, .int .i64 0, .bool false, .slice none 0 0, .slice (some ⟨w1.heap.size + 1 + 1, 0, none⟩) 1 1, .slice none 0 0, .slice none 0 0] 34)
  have B3 := BoxAt.new' (((W8.alloc (.cells #[.slice (some ⟨fb, 0, none⟩) 1 1, .int .i64 0] 24)).alloc (.cells #[.bool true, .int .i64 0, .bool false, .int .i64 7] 76)).alloc (.cells #[.bool true, .int .i64 1] 76)) [.int .i64 8, .int .i64 0, .int .i64 0, .bool false, .slice none 0 0, .slice (some ⟨w1.heap.size + 1 + 1, 0, none⟩) 1 1, .slice none 0 0, .slice none 0 0] 34 (w1.heap.size + 1 + 1 + 1) (by simp [hsz])
  have b14 := bgo (bgo (bgo b1 b2) b3) b4
  have B0' := B0.later (bgo (bgo b2 b3) b4)
  have B1' := B1.later (bgo b3 b4)
  have B2' := B2.later b4
  have old : ∀ {k v}, W8.cell? ⟨fb, k, none⟩ = some v → newM w _ ⟨fb, k, none⟩ = some v := fun h => newM_of ((b14.cell (World.block_lt_of_cell? _ _ h)).trans h) hf1
  refine ⟨(hb1.trans (hk.toBelow hs1 (by simpa using hf1))).trans (b14.mono (by omega)), ⟨fun k v hk => ?_, newM_of ((b14.cell (World.block_lt_of_cell? _ _ ep)).trans ep) hp1, fun k v hk => newM_of (B1'.2 k v hk) (by show w.heap.size ≤ w1.heap.size + 1; omega), fun k v hk => newM_of (B2'.2 k v hk) (by show w.heap.size ≤ w1.heap.size + 1 + 1; omega), fun k v hk => newM_of (B3.2 k v hk) (by show w.heap.size ≤ w1.heap.size + 1 + 1 + 1; omega)⟩, B0'.2 0 _ rfl, B0'.2 1 _ rfl⟩
  match k, hk with
  | 0, hk => simp at hk; subst hk; exact old e0
  | 1, hk => simp at hk; subst hk; exact old e1
  | 2, hk => simp at hk; subst hk; exact old c2
  | 3, hk => simp at hk; subst hk; exact old c3
  | 4, hk => simp at hk; subst hk; exact old c4
  | 5, hk => simp at hk; subst hk; exact old c5
  | 6, hk => simp at hk; subst hk; exact old c6
  | 7, hk => simp at hk; subst hk; exact old c7
  | 8, hk => simp at hk; subst hk; exact old c8
  | 9, hk => simp at hk; subst hk; exact old c9
theorem ag_new (w W : World) : Ag (newM w W) W := fun _ _ h => newM_cell h
theorem rints_new (W : World) (l : List Int) (hl : 0 < l.length) (hb : l.length ≤ 140737488355328) (hi : ∀ x ∈ l, I64 x) (ty : TypeId) (w0 : World) (h : w0.heap.size ≤ W.heap.size) : RInts (newM w0 (W.alloc (.cells (l.map (Value.int .i64)).toArray ty))) (.slice (some ⟨W.heap.size, 0, none⟩) l.length l.length) l := by
  refine ⟨⟨some ⟨W.heap.size, 0, none⟩, l.length, rfl, Nat.le_refl _, hb, fun _ => ⟨W.heap.size, 0, rfl, fun i hi => ⟨rfl, fun k v hk => ?_⟩⟩⟩, hi⟩
  match k, hk with
  | 0, hk =>
    simp at hk
    subst hk
    refine newM_of ((BoxAt.new W (l.map (Value.int .i64)) ty).2 _ _ ?_) h
    simp [List.getD_eq_getElem?_getD, hi]
theorem wkSame {wx w2 Wc : World} {sa : Option Addr} {sc b : Nat} (hbb : b = Wc.heap.size) (hs : RInts (newM wx w2) (.slice sa 3 sc) [3, 0, 7]) (hb2 : Below wx.heap.size wx w2) (hb : Below w2.heap.size w2 Wc) : Calls Try.prog 46 #[.slice sa 3 sc, .slice (some ⟨b, 0, none⟩) 3 3] (Wc.alloc (.cells #[.int .i64 3, .int .i64 0, .int .i64 7] 3)) fun e w' => e = .returned (.bool true) ∧ Below Wc.heap.size (Wc.alloc (.cells #[.int .i64 3, .int .i64 0, .int .i64 7] 3)) w' := by
  subst hbb
  have hbA := bgo hb (below_box Wc (.cells #[.int .i64 3, .int .i64 0, .int .i64 7] 3))
  have h1 := hs.mono (newM_trans hb2.size hbA)
  have h2 := rints_new Wc [3, 0, 7] (by simp) (by simp) (by simp; exact ⟨i64_small _ (by omega) (by omega), i64_small _ (by omega) (by omega), i64_small _ (by omega) (by omega)⟩) 3 wx (Nat.le_trans hb2.size hb.size)
  refine (kSame h1 h2 _ (ag_new _ _)).mono ?_
  rintro e w' ⟨rfl, n, rfl⟩
  exact ⟨rfl, below_drewN (Below.refl _ _) _⟩
end Go.Proofs.Ytimljadlfhccpaa
set_option linter.all false
set_option linter.all false
set_option linter.all false
namespace Go.Proofs.Ytimljadlfhccpaa
open Go.RowKit
set_option maxHeartbeats 400000

def YesPost (w : World) (e : Ending) (w' : World) : Prop := e = .returned (.bool true) ∧ Below w.heap.size w w'
theorem RFlat.mono {m m' : Mp} (h : ∀ a v, m a = some v → m' a = some v) {v : Value} {f : Flat} (hr : RFlat m v f) : RFlat m' v f := ⟨hr.1.mono h, hr.2⟩
theorem wpList_append0 {P : Program} {w : World} {ops : Array Oper} {rest : List Oper} {o : Oper} {act : Act} {Q : Exit → Act → World → Prop} (hgd : o.guard = none)
    (s x : Operand) {t e : TypeId} (hop : o.op = Op.call { callee := Callee.builtin Builtin.append, args := #[s, x], argTypes := #[t, t] })
    {base : Nat} {i : TypeInfo} {z : Value} {size bytes : Nat} (ht : P.underlying t = some (.slice e)) (hi : P.info? e = some i) (hz : i.zero = some z)
    (hsize : i.size = size) (hby : i.bytes = bytes) (hzs : z.cells.size = size) (hsz : 0 < size) {g : Nat} (hs : act.eval s = .slice (some ⟨g, 0, none⟩) 0 0) (hown : w.heap[g]? = some (.cells #[] e (0, 0))) (hg : base ≤ g)
    {sv : Value} {m : Nat} {news : List Value} (hx : act.eval x = sv) (hl : news.length = m * size) (hnews : SrcAt w sv m news) (h1 : ∀ u ∈ news, u.oneCell' = true) (h63 : m ≤ maxLen) (hbytes : m * bytes ≤ 140737488355328) (hbase : base ≤ w.heap.size)
    (hK : ∀ v' w', w'.ownsRow base e size v' m news → Below w.heap.size w w' → wpList P ops Q rest (act.put o.dst v') w') : wpList P ops Q (o :: rest) act w :=
  wpList_plain hgd fun _ hK' => wp_append0 s x hop ht hi hz hsize hby hzs hsz hs hown hg hx hl hnews h1 h63 hbytes hbase (fun v' w' h hb => hK' _ _ (hK v' w' h hb))
/-- What stands while the law is asked: the flat program's box. -/
structure FuAt (w : World) (v0 v1 : Value) (wx : World) : Prop where
  bel : Below w.heap.size w wx
  c0 : wx.cell? ⟨w.heap.size, 0, none⟩ = some v0
  c1 : wx.cell? ⟨w.heap.size, 1, none⟩ = some v1
theorem FuAt.lt {w wx : World} {v0 v1 : Value} (h : FuAt w v0 v1 wx) : w.heap.size < wx.heap.size := World.block_lt_of_cell? _ _ h.c0
theorem FuAt.next {w wx wy : World} {v0 v1 : Value} (h : FuAt w v0 v1 wx) (hb : Below wx.heap.size wx wy) : FuAt w v0 v1 wy := ⟨bgo h.bel hb, (hb.cell h.lt).trans h.c0, (hb.cell h.lt).trans h.c1⟩
/-- What the append of the input to nothing leaves. -/
theorem input_new {m : Mp} {pl : Value} {l : List Int} {w w2 w3 : World} {v3 : Value} (hl : RInts m pl l) (hln : l.length ≤ 140737488355328) (h2 : w.heap.size ≤ w2.heap.size) (ho : w3.ownsRow w2.heap.size 3 1 v3 l.length (l.map (.int .i64))) : RInts (newM w w3) v3 l := rints_of ho hl.2 hln h2
end Go.Proofs.Ytimljadlfhccpaa
