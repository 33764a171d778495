/- The machine: it shows a value, whole. -/
import Derived.Test.YtjcgoohmhbgkiaaProg
import Derived.Test.YtjcgoohmhbgkiaaFlI
set_option linter.all false
set_option linter.all false
namespace Go.Proofs.Ytjcgoohmhbgkiaa
open Go.RowKit
set_option maxHeartbeats 600000

theorem rval_out {nf : Nat} {S : List Nat} {w : World} {b : Nat} {v : Val} (h : RVal nf (memB S w) (.pointer (some ⟨b, 0, none⟩)) v) : b ∉ S := by
  obtain ⟨b', ab, ac, e, _, _, _, _, _, h6, _⟩ := h.open
  cases e
  cases h with
  | mk k n args b va vp ik inn hk hc ha hv =>
    have := hc 0 _ rfl
    intro hs
    simp [memB, hs] at this
set_option maxRecDepth 100000 in
theorem show_go {c : Ctx} (ok : c.Ok) {steps : Nat} {s : St} {vw : Value} {v : Val} (ih : ∀ u ∈ v.args, ShowSpec c steps s vw u) (hk : ¬ v.kind = 3) {w : World} {S : List Nat} {vs : Value} {sh : List Int} {p : Value} (hM : Mch c w S steps s vw vs sh) (hS : ∀ k ∈ S, k < w.heap.size) (hr : RVal c.f.funs.length (memB S w) p v) (hl : sh.length < 4096) :
    Calls Try.prog 77 #[.pointer (some ⟨c.M, 0, none⟩), p] w (ShowPost c steps s vw S w (showV v sh)) := by
  obtain ⟨b, ab, ac, rfl, _, hn64, _, h4, h5, h6, h7⟩ := hr.open
  obtain ⟨c0, c1, c2⟩ := h6 w (memB_ag _ _)
  have hbS := rval_out hr
  have c8 := hM.c8
  have z8 := hM.fz 8
  have hbM : ¬ b = c.M := fun e => hbS (e ▸ hM.inS)
  have hMb : ¬ c.M = b := fun e => hbS (e ▸ hM.inS)
  have ltb := World.block_lt_of_cell? w ⟨b, 0, none⟩ c0
  have hrow : Hid (vs.ownBlock ≠ some b) := Lib.hid (fun e => hbS (hM.rowS _ e))
  have hMr := Lib.hid (hM.rowNe ok).2
  have HO := Lib.hid (fun (wx : World) (hb : Below w.heap.size w wx) => more_ok (x := v.n) (ownsRow_below hM.ownS hb) hl (Nat.le_trans hM.kept.size hb.size))
  have hk' : (v.kind != 3) = true := by simpa using hk
  have HV := Lib.hid (show showV v sh = showVs v.args (sh ++ [v.n]) from by rw [showV_eq, if_neg hk, if_neg (by omega)])
  have HM := Lib.hid hM
  have HS := Lib.hid hS
  have H7 := Lib.hid h7
  have IH := Lib.hid ih
  have HOK := Lib.hid ok
  have ltM := hM.ltM
  have PS := Lib.hid (fun (w3 : World) (v' : Value) (hp : Pushed c.w1.heap.size 3 w.drew w3 vs v' (sh.length + 1) (sh.map (.int .i64) ++ [.int .i64 v.n])) => hM.drew.pushS ok hp hn64 hl)
  clear hr hM hS hk h6 h7 ih ok
  go_enter Try.func77, Try.ntmps77
  go_wp2_with (go_at_call 68; refine (want_ok _).mono ?_; rintro e w3 ⟨rfl, hw3⟩; obtain rfl := hw3.symm)
  go_region_law
    (first | (refine step_one rfl ?_; go_simp; refine (HO.out _ (Below.refl _ _).drew).mono ?_; rintro e w3 ⟨v', rfl, hp⟩; dsimp only; obtain ⟨g, cap, rfl⟩ := hp.some; have hB := hp.gr.block b ltb (fun e => hrow.out e.symm); have hMM := hp.gr.block c.M ltM (fun e => hMr.out e.symm); have d1 := (blk_cell hB 1).trans c1; have d2 := (blk_cell hB 2).trans c2; have d8 := (blk_cell hMM 8).trans c8; have e8 := (World.frozen?_of_block (a := ⟨c.M, 8, none⟩) hMM).trans z8; clear hB hMM))
  all_goals
  obtain ⟨hM3, hE3⟩ := PS.out w3 _ hp
  have hS3 := hp.newLt HS.out
  have HM3 := Lib.hid hM3
  have HE3 := Lib.hid hE3
  have HS3 := Lib.hid hS3
  clear hM3 hE3 hS3 PS HO hp
  go_wp2_with fail
  go_loopg [29] (v.args.length) (fun g i wr => ∃ (j : Nat) (S' : List Nat) (vs' : Value) (sh' : List Int), j + g = v.args.length ∧ i = .int .i64 j ∧ Hid (showV v sh = showVs (v.args.drop j) sh') ∧ Hid (Ext S w S' wr) ∧ Hid (∀ k ∈ S', k < wr.heap.size) ∧ Hid (Mch c wr S' steps s vw vs' sh'))
  case atStart => exact ⟨0, _, _, _, by omega, rfl, HV, Lib.hid ((Ext.below (Below.refl _ _).drew).trans HE3.out), Lib.hid (fun k hk => by rw [size_setCell]; exact HS3.out k hk), HM3⟩
  case round =>
    obtain ⟨j, S', vs', sh', hj, rfl, hs, hE, hSl, hMr'⟩ := hrel
    by_cases hlt : j < v.args.length
    · obtain ⟨cb, co, q, rfl, hrq, hcq⟩ := H7.out j hlt
      have cq := hcq wr (fun a u h => memB_ag S' wr a u (hE.out.mem a u h))
      have HQ := Lib.hid (IH.out _ (List.getElem_mem hlt) wr S' vs' sh' q hMr'.out hSl.out (hrq.mono hE.out.mem))
      have st := Lib.hid (hs.out.trans (showVs_step hlt sh'))
      clear hcq hrq
      cases hsv : showV v.args[j] sh' with
      | inl en =>
        obtain ⟨stk, en⟩ := en
        rw [hsv] at HQ st
        have HR := Lib.hid (fun (w' : World) (h : ∃ S'' vs'' sh'', Ext S' wr S'' w' ∧ (∀ k ∈ S'', k < w'.heap.size) ∧ Mch c w' S'' steps s vw vs'' sh'') => (show ShowPost c steps s vw S w (showV v sh) (thrown stk en) w' from by rw [st.out]; obtain ⟨S'', vs'', sh'', h1, h2, h3⟩ := h; exact ⟨rfl, S'', vs'', sh'', hE.out.trans h1, h2, h3⟩))
        go_wp2_with (go_at_call 77; refine HQ.out.mono ?_; rintro e w4 ⟨rfl, h4⟩)
        exact ⟨rfl, HR.out _ h4⟩
      | inr l' =>
        rw [hsv] at HQ st
        go_wp2_with (go_at_call 77; refine HQ.out.mono ?_; rintro e w4 ⟨rfl, S'', vs'', h1, h2, h3⟩)
        go_roundg (v.args.length - (j + 1))
        case measure => omega
        case rel => exact ⟨j + 1, S'', vs'', l', by omega, by go_num, st, Lib.hid (hE.out.trans h1), Lib.hid h2, Lib.hid h3⟩
    · have hd : showVs (v.args.drop j) sh' = .inr sh' := by rw [List.drop_eq_nil_of_le (by omega), showVs]
      have HD := Lib.hid (show ShowPost c steps s vw S w (showV v sh) (.returned (.tuple #[])) wr from by rw [hs.out, hd]; exact ⟨rfl, S', vs', hE.out, hSl.out, hMr'.out⟩)
      clear hd
      go_wp2_with fail
      go_end0
      exact HD.out
theorem show_any {c : Ctx} (ok : c.Ok) (steps : Nat) (s : St) (vw : Value) (v : Val) : ShowSpec c steps s vw v := by
  refine Val.ind (fun v ih => ?_) v
  by_cases hk : v.kind = 3
  · exact show_fun hk
  · intro w S vs sh p hM hS hr
    have hl := hM.lenS
    by_cases h : sh.length = 4096
    · exact show_long hk hM hS hr h
    · exact show_go ok ih hk hM hS hr (by omega)
end Go.Proofs.Ytjcgoohmhbgkiaa
