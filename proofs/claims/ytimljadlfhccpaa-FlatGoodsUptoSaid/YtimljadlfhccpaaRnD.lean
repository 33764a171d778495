/- The document's machine: a body is run. -/
import Derived.Test.YtimljadlfhccpaaProg
import Derived.Test.YtimljadlfhccpaaRnC
import Derived.Deep.LoopGhost
import Derived.Deep.CutBlock
import Derived.Deep.DeepCutAuto
set_option linter.all false
set_option linter.all false
set_option linter.all false
namespace Go.Proofs.Ytimljadlfhccpaa
open Go.RowKit
set_option maxHeartbeats 8000000

theorem atom_var {e : Env} {a : Atm} (h : a.var = true) {v : Val} (hv : e a.n = some v) : atomV e a = v := by unfold atomV; rw [h, if_pos rfl, hv]; rfl
theorem atom_const {e : Env} {a : Atm} (h : a.var = false) : atomV e a = .mk 1 a.n [] := by unfold atomV; rw [h]; rfl
theorem formed_args {nf : Nat} {main : Int} {t : Term} (h : formedB nf main t = true) : t.args.length ≤ 64 := by
  rcases formed_kinds h with k | k | k | k | k | k | k | k | k
  · rw [formedB_1 k, decide_eq_true_iff] at h; omega
  · rw [formedB_2 k, decide_eq_true_iff] at h; omega
  · rw [formedB_3 k, decide_eq_true_iff] at h; omega
  · rw [formedB_5 k, decide_eq_true_iff] at h; omega
  · rw [formedB_6 k, decide_eq_true_iff] at h; omega
  · rw [formedB_7 k, decide_eq_true_iff] at h; omega
  · rw [formedB_8 k, decide_eq_true_iff] at h; omega
  · rw [formedB_9 k, decide_eq_true_iff] at h; omega
  · rw [formedB_10 k, decide_eq_true_iff] at h; omega
set_option maxRecDepth 100000 in
theorem rbody_any {m0 : Mp} {R base eb : Nat} {Fb : Option Addr} {Fc : Nat} {f : Flat} {fuel : Int} {steps : Nat} {vs : Value} {vl : List Int} {w : World} {S : List Nat} {tb tof : Nat} {t : Term} {env : Env} {s : St} {vw : Value}
    (hA : BAt m0 R base eb Fb Fc f fuel steps vs vl w S (tcount t) 0 w S tb tof t env s vw) :
    Calls Try.prog 35 #[.pointer (some ⟨R, 0, none⟩), .pointer (some ⟨tb, tof, none⟩), .map (some eb)] w (BodyPost R base Fb Fc f fuel steps w S (bodyT t env s)) := by
  have HA := Lib.hid hA
  obtain ⟨o, ho⟩ : ∃ o, bodyT t env s = o := ⟨_, rfl⟩
  rw [ho]
  have HO := Lib.hid ho
  clear hA ho
  obtain ⟨i0, hi, hz0, hz1, hz2⟩ := info_parts infoV
  obtain ⟨i1, hiI, hy0, hy1, hy2⟩ := info_parts infoI
  go_enter Try.func35, Try.ntmps35
  go_wp2_with fail
  go_loopg [1] (tcount t) (fun g x1 wr => ∃ (tb' tof' : Nat) (t' : Term) (env' : Env) (s' : St) (vw' : Value) (S' : List Nat), g = tcount t' ∧ x1 = .pointer (some ⟨tb', tof', none⟩) ∧ Hid (BAt m0 R base eb Fb Fc f fuel steps vs vl w S (tcount t') 0 wr S' tb' tof' t' env' s' vw') ∧ Hid (bodyT t' env' s' = o))
  case atStart => exact ⟨tb, tof, t, env, s, vw, S, rfl, rfl, HA, HO⟩
  case round =>
  clear HA HO
  obtain ⟨tb', tof', t', env', s', vw', S', hg, rfl, HA, HO⟩ := hrel
  obtain ⟨wo, hwo⟩ : ∃ wo : World, wo = wr := ⟨_, rfl⟩
  subst hwo
  have c5 := HA.out.rn.c5
  have fz := HA.out.rn.fz 5
  have ltR := HA.out.rn.ltR
  obtain ⟨bw, bm⟩ := HA.out.bounds
  have htc : tcount t' = (tcount t' - 1) + 1 := by rw [tcount_eq]; omega
  have HTC := Lib.hid htc
  have HGG := Lib.hid hg
  clear htc hg
  go_upto_region 1 with fail
  go_cut [] from 15 to 21 (fun wx => Hid (BAt m0 R base eb Fb Fc f fuel steps vs vl w S (tcount t' - 1) 65 wx S' tb' tof' t' env' (worked s') vw'))
  case first =>
    go_wp2_with fail
    go_meet
    exact Lib.hid (BAt.workedB (by rw [← HTC.out]; exact HA.out))
  case rest =>
  obtain ⟨wX, hwX⟩ : ∃ x : World, x = wc := ⟨_, rfl⟩
  subst hwX
  have HA1 := hcut
  clear HA c5 fz ltR hcut
  obtain ⟨gb, gc, ab, ac, fb, fc, nb, nc, hO8, hcell⟩ := HA1.out.hT.opn
  have HO8 := Lib.hid hO8
  have HCELL := Lib.hid hcell
  have hargs := hO8.args.len
  have hlen : t'.args.length ≤ 64 := formed_args HA1.out.rd.formed
  have HVL := Lib.hid (show (t'.args.map (atomV env')).length = t'.args.length by simp)
  clear hO8 hcell hargs
  go_upto_block 2 with fail
  go_cut [8] from 22 to 64 (fun v wx => ∃ vb vc, v = .slice vb t'.args.length vc ∧ Hid (BAt m0 R base eb Fb Fc f fuel steps vs vl w S (tcount t' - 1) 65 wx S' tb' tof' t' env' (worked s') vw') ∧ Hid (RArgs f.funs.length (memB S' wx) v (t'.args.map (atomV env'))))
  case first =>
    as_aux_lemma =>
    go_wp2_with fail
    go_loopg [8, 9] (t'.args.length) (fun g v i wq => ∃ (j : Nat) (ps : List Value), j + g = t'.args.length ∧ i = .int .i64 j ∧ Hid (wq.ownsRow wX.heap.size 80 1 v j ps) ∧ Hid (RVs f.funs.length (memB (v.ownBlock.toList ++ S') wq) ps ((t'.args.map (atomV env')).take j)) ∧ Hid (Below wX.heap.size wX wq))
    case atStart => exact ⟨0, [], by omega, rfl, Lib.hid (World.ownsRow_nil _ _ _ _), Lib.hid (by rw [List.take_zero]; exact RVs.nil _ _), Lib.hid (Below.refl _ _)⟩
    case round =>
      obtain ⟨j, ps, hj, rfl, ho, hr, hb⟩ := hrel
      obtain ⟨ao, cap, rfl⟩ := ownsRow_slice ho.out
      have HAw := Lib.hid (HA1.out.later hb.out)
      obtain ⟨_, _, _, _, _, x5, _, _⟩ := HCELL.out wr HAw.out.ag
      by_cases hlt : j < t'.args.length
      · obtain ⟨b, o1, rfl, a1, a2, hc⟩ := atms_at HO8.out.args j hlt
        obtain ⟨c0, c1⟩ := hc wr HAw.out.ag
        have hlv : j < (t'.args.map (atomV env')).length := by have := HVL.out; omega
        have HV : Hid ((t'.args.map (atomV env'))[j]? = some (atomV env' t'.args[j])) := Lib.hid (by simp [hlt])
        obtain ⟨ia, hbd⟩ := HA1.out.rd.atoms t'.args[j] (List.getElem_mem hlt)
        have hSn : Hid (∀ k ∈ (Value.slice ao j cap).ownBlock.toList ++ S', k ∈ S' ∨ wX.heap.size ≤ k) := Lib.hid (fun k hk => by
          rcases List.mem_append.1 hk with hk | hk
          · exact .inr (ho.out.lt k (by simpa using hk)).1
          · exact .inl hk)
        have hSl : Hid (∀ k ∈ (Value.slice ao j cap).ownBlock.toList ++ S', k < wr.heap.size) := Lib.hid (fun k hk => by
          rcases List.mem_append.1 hk with hk | hk
          · exact (ho.out.lt k (by simpa using hk)).2
          · exact Nat.lt_of_lt_of_le (HA1.out.rn.lt k hk) hb.out.size)
        have hsz := hb.out.size
        clear hc
        cases hv : t'.args[j].var with
        | true =>
          rw [hv] at c0
          obtain ⟨_, u, _, hu⟩ := hbd hv
          have HU : Hid (atomV env' t'.args[j] = u) := Lib.hid (atom_var hv hu)
          obtain ⟨es, p, IM, hp0, hrv⟩ := HA1.out.envm.look hu
          obtain ⟨pb, rfl⟩ := hrv.ptr
          have hlk := run_lookup_I Try.underlying86 Try.underlying3 zero_V (w := wr) (IM.below hb.out) t'.args[j].n false
          rw [if_neg Bool.false_ne_true, hp0] at hlk
          have HRV := Lib.hid (hrv.mono (mem_sub (Kept.below hb.out) hSn.out))
          clear hbd hu hv hp0 hrv IM
          go_wp2_with (at_builtin; refine wpList_push rfl (.tmp 39) (.tmp 50) rfl Try.underlying81 hi hz0 hz1 hz2 (by decide) rfl (ho.out.alloc _) (a := ⟨wr.heap.size, 0, none⟩) (c := 1) (y := .pointer (some ⟨pb, 0, none⟩)) rfl (by simp) rfl (by unfold maxLen; omega) (by omega) (by simp; omega) ?_; intro v' w3 hp)
          have HR := Lib.hid (pushed_vs (u := u) hr.out (by rw [HV.out, HU.out]) (Below.refl _ _) HRV.out (hp.ofBelow (below_box _ _)))
          have HB := Lib.hid ((hp.ofBelow (below_box _ _)).below hb.out ho.out (Nat.le_refl _))
          have HO2 := Lib.hid hp.own
          clear hp
          go_roundg (t'.args.length - (j + 1))
          case measure => omega
          case rel => exact ⟨j + 1, _, by omega, by go_num, HO2, HR, HB⟩
        | false =>
          rw [hv] at c0
          have HU : Hid (atomV env' t'.args[j] = .mk 1 t'.args[j].n []) := Lib.hid (atom_const hv)
          have HRV : Hid (RV f.funs.length (memB ((Value.slice ao j cap).ownBlock.toList ++ S') (wr.alloc (.cells #[.bool true, .int .i64 t'.args[j].n, .int .i64 0, .slice none 0 0] 83))) (.pointer (some ⟨wr.heap.size, 0, none⟩)) (.mk 1 t'.args[j].n [])) :=
            Lib.hid (RV.new (k := 1) (.inl rfl) ia (fun h => by omega) (RArgs.nil _ _) hSl.out)
          clear hbd hv
          go_wp2_with (at_builtin; refine wpList_push rfl (.tmp 52) (.tmp 63) rfl Try.underlying81 hi hz0 hz1 hz2 (by decide) rfl ((ho.out.alloc _).alloc _) (a := ⟨wr.heap.size + 1, 0, none⟩) (c := 1) (y := .pointer (some ⟨wr.heap.size, 0, none⟩)) rfl (by simp) rfl (by unfold maxLen; omega) (by omega) (by simp; omega) ?_; intro v' w3 hp)
          have HR := Lib.hid (pushed_vs (u := .mk 1 t'.args[j].n []) hr.out (by rw [HV.out, HU.out]) (below_box _ _) HRV.out (hp.ofBelow (below_box _ _)))
          have HB := Lib.hid ((hp.ofBelow (below_box _ _)).below (bgo hb.out (below_box _ _)) (ho.out.alloc _) (Nat.le_refl _))
          have HO2 := Lib.hid hp.own
          clear hp
          go_roundg (t'.args.length - (j + 1))
          case measure => omega
          case rel => exact ⟨j + 1, _, by omega, by go_num, HO2, HR, HB⟩
      · have hjl : j = t'.args.length := by omega
        subst hjl
        have h1 := hr.out
        rw [List.take_of_length_le (by rw [HVL.out]; omega)] at h1
        have HF := Lib.hid (RArgs.of ho.out (h1.mono (fun a v ha => by
          unfold memB at ha ⊢
          split at ha
          · cases ha
          · rename_i hs
            rw [if_neg (fun hm => hs (List.mem_append_right _ hm))]
            exact ha)) HVL.out.symm HA1.out.rn.lt (by omega))
        clear h1
        go_wp2_with fail
        go_meet
        exact ⟨_, _, rfl, HAw, HF⟩
--REST
  case rest =>
  obtain ⟨vb, vc, rfl, HA2, HAR⟩ := hcut
  clear HA1
  obtain ⟨wM, hwM⟩ : ∃ x : World, x = wc := ⟨_, rfl⟩
  subst hwM
  obtain ⟨x0, x1, x2, x3, x4, x5, x6, x7⟩ := HCELL.out wM HA2.out.ag
  have ltR := HA2.out.rn.ltR
  have ltT : tb' < wM.heap.size := World.block_lt_of_cell? wM ⟨tb', tof', none⟩ x0
  have HAG : Hid (Ag (memB S' wM) wM) := Lib.hid (memB_ag _ _)
  go_upto_block 4 with fail
  go_cut [1, 10] (fun v1 v wx => v1 = .pointer (some ⟨tb', tof', none⟩) ∧ ∃ u s2 S2 vw2, Hid (stepT t' env' (worked s') = .next 0 (upd env' t'.x u) s2) ∧ Hid (bindsB t'.kind = true ∧ 0 < t'.next.length) ∧ Hid (RV f.funs.length (memB S2 wx) v u) ∧ Hid (BAt m0 R base eb Fb Fc f fuel steps vs vl w S (tcount t' - 1) 0 wx S2 tb' tof' t' env' s2 vw2))
  case first =>
    clear x3 x4 x5 x6
    have hfm := HA2.out.rd.formed
    rcases formed_kinds hfm with hk | hk | hk | hk | hk | hk | hk | hk | hk
    · as_aux_lemma =>
      rw [formedB_1 hk, decide_eq_true_iff] at hfm
      obtain ⟨_, _, _, ha, hnx, hn1, hn7⟩ := hfm
      have ha1 : 1 < t'.args.length := by omega
      have HNX : Hid (0 < t'.next.length) := Lib.hid (by omega)
      have HST := Lib.hid (step_1 (e := env') (s := worked s') hk)
      have HBD : Hid (bindsB t'.kind = true) := Lib.hid (by rw [hk]; rfl)
      have q1 : (t'.kind == 1) = true := by rw [hk]; rfl
      have q2 : (t'.kind == 2) = false := by rw [hk]; rfl
      have q9 : (t'.kind == 9) = false := by rw [hk]; rfl
      have q3 : (t'.kind == 3) = false := by rw [hk]; rfl
      have q10 : (t'.kind == 10) = false := by rw [hk]; rfl
      have q5 : (t'.kind == 5) = false := by rw [hk]; rfl
      have q6 : (t'.kind == 6) = false := by rw [hk]; rfl
      have q7 : (t'.kind == 7) = false := by rw [hk]; rfl
      obtain ⟨c, o1, b0, ab0, ac0, rfl, hle, hc0, O0, _⟩ := args_at0 HAR.out (by omega)
      obtain ⟨b1, ab1, ac1, hc1, O1⟩ := args_at1 HAR.out (by omega)
      have y0 := hc0 wM HAG.out
      have lty : c < wM.heap.size := World.block_lt_of_cell? wM ⟨c, o1, none⟩ y0
      have y1 := hc1 wM HAG.out
      clear hk ha hnx x7 hc0 hc1
      generalize atomV env' (t'.args.getD 0 atm0) = v0 at HST O0
      generalize atomV env' (t'.args.getD 1 atm0) = v1 at HST O1
      have HO0 := Lib.hid O0
      have HO1 := Lib.hid O1
      clear O0 O1
      by_cases k0 : v0.kind = 1
      rotate_left
      · have HSTK : Hid (stepT t' env' (worked s') = .stop true 0 [] (worked s')) := Lib.hid (by rw [HST.out, if_neg (by omega)])
        have z0 : wM.cell? ⟨b0, 0, none⟩ = some (.bool false) := by have := (HO0.out.cells wM HAG.out).1; rwa [decide_eq_false k0] at this
        clear k0
        go_wp2_with fail
        go_ret2
        exact HA2.out.ends HSTK.out HO.out rfl (by omega) (by omega)
      obtain ⟨z0, z1, _, _⟩ := HO0.out.c1 k0 wM HAG.out
      by_cases k1 : v1.kind = 1
      rotate_left
      · have HSTK : Hid (stepT t' env' (worked s') = .stop true 0 [] (worked s')) := Lib.hid (by rw [HST.out, if_neg (by omega)])
        have z4 : wM.cell? ⟨b1, 0, none⟩ = some (.bool false) := by have := (HO1.out.cells wM HAG.out).1; rwa [decide_eq_false k1] at this
        clear k0 k1
        go_wp2_with fail
        go_ret2
        exact HA2.out.ends HSTK.out HO.out rfl (by omega) (by omega)
      obtain ⟨z4, z5, _, _⟩ := HO1.out.c1 k1 wM HAG.out
      have HDo := fun (wx : World) => (rDo t'.n v0.n v1.n wx HO0.out.inn HO1.out.inn).mono (R' := fun e w' => e = .returned (doVal t'.n v0.n v1.n) ∧ w' = wx) (fun e w' h => ⟨h.1, h.2.symm⟩)
      have HST1 := Lib.hid (HST.out.trans (if_pos ⟨k0, k1⟩))
      clear k0 k1 HST
      cases hd : doOp t'.n v0.n v1.n with
      | none =>
        rw [hd] at HST1
        rw [doVal_none hd] at HDo
        have HDo := Lib.hid HDo
        clear hd
        go_wp2_with fail
        go_quiet ((go_at_call 61; exact Calls.quiet_of_same (HDo.out _)))
        go_wp2_with fail
        go_ret2
        exact (HA2.out.later (below_drewN (Below.refl _ _) _)).ends HST1.out HO.out rfl (by omega) (by omega)
      | some r =>
        rw [hd] at HST1
        have HIR := Lib.hid (doOp_I64 hd)
        rw [doVal_some hd] at HDo
        have HDo := Lib.hid HDo
        clear hd
        by_cases h6 : t'.n < 6
        all_goals
          go_wp2_with fail
          go_quiet ((go_at_call 61; exact Calls.quiet_of_same (HDo.out _)))
          go_wp2_with fail
          go_meet
          refine ⟨rfl, primV t'.n r, worked s', S', vw', HST1, Lib.hid ⟨HBD.out, HNX.out⟩, Lib.hid ?_, Lib.hid ((HA2.out.later (bgo (below_drewN (Below.refl _ _) _) (below_box _ _))).less (by omega))⟩
          unfold primV
          first
            | ((try rw [show decide (t'.n < 6) = true from decide_eq_true (by omega)]); rw [if_neg (by omega)]; exact RV.new (k := 1) (.inl rfl) HIR.out (fun h => by omega) (RArgs.nil _ _) (HA2.out.later (below_drewN (Below.refl _ _) _)).rn.lt)
            | ((try rw [show decide (t'.n < 6) = false from decide_eq_false (by omega)]); rw [if_pos (by omega)]; exact RV.new (k := 2) (.inr (.inl rfl)) HIR.out (fun h => by omega) (RArgs.nil _ _) (HA2.out.later (below_drewN (Below.refl _ _) _)).rn.lt)
    · as_aux_lemma =>
      rw [formedB_2 hk, decide_eq_true_iff] at hfm
      obtain ⟨_, _, _, ha, hnx, hn0, hn1⟩ := hfm
      have HNX : Hid (0 < t'.next.length) := Lib.hid (by omega)
      have HST := Lib.hid (step_2 (e := env') (s := worked s') hk)
      have HBD : Hid (bindsB t'.kind = true) := Lib.hid (by rw [hk]; rfl)
      have HIN := Lib.hid HO8.out.inn
      have q1 : (t'.kind == 1) = false := by rw [hk]; rfl
      have q2 : (t'.kind == 2) = true := by rw [hk]; rfl
      have q9 : (t'.kind == 9) = false := by rw [hk]; rfl
      have q3 : (t'.kind == 3) = false := by rw [hk]; rfl
      have q10 : (t'.kind == 10) = false := by rw [hk]; rfl
      have q5 : (t'.kind == 5) = false := by rw [hk]; rfl
      have q6 : (t'.kind == 6) = false := by rw [hk]; rfl
      have q7 : (t'.kind == 7) = false := by rw [hk]; rfl
      have c4 := HA2.out.rn.c4
      have f4 := HA2.out.rn.fz 4
      obtain ⟨bw2, bm2⟩ := HA2.out.bounds
      clear hk hnx x7
      go_wp2_with fail
      go_meet
      have HB1 := Lib.hid (HA2.out.makes (n := t'.args.length) (by omega))
      have HB2 := Lib.hid (HB1.out.later (below_box _ (.cells #[.bool false, .int .i64 t'.n, .int .i64 0, .slice vb t'.args.length vc] 83)))
      refine ⟨rfl, .mk 2 t'.n (t'.args.map (atomV env')), _, S', vw', HST, Lib.hid ⟨HBD.out, HNX.out⟩, Lib.hid ?_, HB2⟩
      have h := RV.new (k := 2) (t := 83) (.inr (.inl rfl)) HIN.out (fun h => by omega) (HAR.out.mono (HA2.out.rn.ext 4 (.int .i64 (((worked s').made : Int) + ((t'.args.length : Int) + 1)))).mem) HB1.out.rn.lt
      rw [size_setCell] at h
      exact h
    · as_aux_lemma =>
      rw [formedB_3 hk, decide_eq_true_iff] at hfm
      obtain ⟨_, _, _, ha, hnx, hn0, hn1⟩ := hfm
      have ha0 : 0 < t'.args.length := by omega
      have HNX : Hid (0 < t'.next.length) := Lib.hid (by omega)
      have HST := Lib.hid (step_3 (e := env') (s := worked s') hk)
      have HBD : Hid (bindsB t'.kind = true) := Lib.hid (by rw [hk]; rfl)
      obtain ⟨kn, hkn⟩ : ∃ kn : Nat, t'.n = kn := ⟨t'.n.toNat, by omega⟩
      have HKN := Lib.hid hkn
      have xc := HCELL.out
      have X2 := Lib.hid (fun (wx : World) (h : Ag m0 wx) => (show wx.cell? ⟨tb', tof' + 2, none⟩ = some (.int .i64 (kn : Int)) from by rw [← hkn]; exact (xc wx h).2.2.1))
      clear xc x2
      have x2 := X2.out wM HA2.out.ag
      have q1 : (t'.kind == 1) = false := by rw [hk]; rfl
      have q2 : (t'.kind == 2) = false := by rw [hk]; rfl
      have q9 : (t'.kind == 9) = false := by rw [hk]; rfl
      have q3 : (t'.kind == 3) = true := by rw [hk]; rfl
      have q10 : (t'.kind == 10) = false := by rw [hk]; rfl
      have q5 : (t'.kind == 5) = false := by rw [hk]; rfl
      have q6 : (t'.kind == 6) = false := by rw [hk]; rfl
      have q7 : (t'.kind == 7) = false := by rw [hk]; rfl
      obtain ⟨c, o1, b0, ab0, ac0, rfl, hle, hc0, O0, _⟩ := args_at0 HAR.out (by omega)
      have y0 := hc0 wM HAG.out
      have lty : c < wM.heap.size := World.block_lt_of_cell? wM ⟨c, o1, none⟩ y0
      have HC0 := Lib.hid hc0
      clear hk ha hnx hkn x7 hc0
      generalize atomV env' (t'.args.getD 0 atm0) = v0 at HST O0
      have HO0 := Lib.hid O0
      have o3 := O0.h3
      have o4 := O0.inn.2
      have o5 := O0.bd
      have o6 := O0.le
      clear O0
      have hkd : v0.kind = 1 ∨ v0.kind = 2 ∨ v0.kind = 3 := HO0.out.hk
      rcases hkd with k0 | k0 | k0
      · obtain ⟨z0, z1, z2, z3⟩ := HO0.out.c1 k0 wM HAG.out
        have ltz : b0 < wM.heap.size := World.block_lt_of_cell? wM ⟨b0, 0, none⟩ z0
        have HSTK : Hid (stepT t' env' (worked s') = .stop true 0 [] (worked s')) := Lib.hid (by rw [HST.out, if_neg (by omega)])
        clear k0 o3
        go_wp2_with fail
        have hL4 := later_cell wM
        refine wp_region_later (by kernel_rfl) (by kernel_rfl) ?_
        repeat (go_big_quiet_step (fail))
        refine wpQuiet_nil ?_
        intro w4 hw'
        obtain ⟨⟨w4', hb4⟩, hw''⟩ := hw'
        subst hw''
        have HB4 := Lib.hid hb4
        clear hb4 hL4
        go_wp2_with fail
        go_ret2
        exact (HA2.out.later HB4.out).ends HSTK.out HO.out rfl (by omega) (by omega)
      · obtain ⟨z0, z1, z2, z3⟩ := HO0.out.c2 k0 wM HAG.out
        have ltz : b0 < wM.heap.size := World.block_lt_of_cell? wM ⟨b0, 0, none⟩ z0
        by_cases hin : kn < v0.args.length
        rotate_left
        · have HSTK : Hid (stepT t' env' (worked s') = .stop true 0 [] (worked s')) := Lib.hid (by rw [HST.out, if_neg (by have := HKN.out; omega)])
          clear k0 o3
          go_wp2_with fail
          have hL4 := later_cell wM
          refine wp_region_later (by kernel_rfl) (by kernel_rfl) ?_
          repeat (go_big_quiet_step (fail))
          refine wpQuiet_nil ?_
          intro w4 hw'
          obtain ⟨⟨w4', hb4⟩, hw''⟩ := hw'
          subst hw''
          have HB4 := Lib.hid hb4
          clear hb4 hL4
          go_wp2_with fail
          go_ret2
          exact (HA2.out.later HB4.out).ends HSTK.out HO.out rfl (by omega) (by omega)
        have HSTN : Hid (stepT t' env' (worked s') = .next 0 (upd env' t'.x (v0.args.getD kn nov)) (worked s')) := Lib.hid (by rw [HST.out, if_pos ⟨k0, by have := HKN.out; omega⟩, HKN.out]; rfl)
        have HK0 := Lib.hid k0
        clear k0 o3
        go_wp2_with fail
        have hL4 := later_cell wM
        refine wp_region_later (by kernel_rfl) (by kernel_rfl) ?_
        repeat (go_big_quiet_step (fail))
        refine wpQuiet_nil ?_
        intro w4 hw'
        obtain ⟨⟨w4', hb4⟩, hw''⟩ := hw'
        subst hw''
        have HB4 := Lib.hid hb4
        clear hb4 hL4
        have HA4 := Lib.hid (HA2.out.later HB4.out)
        have HAG4 := Lib.hid (HAG.out.later HB4.out)
        clear x1 x2 y0 z0 z1 z2 z3
        have x2 := X2.out w4 HA4.out.ag
        have y0 := HC0.out w4 HAG4.out
        obtain ⟨z0, z1, z2, z3⟩ := HO0.out.c2 HK0.out w4 HAG4.out
        clear lty ltz ltT
        have lty : c < w4.heap.size := World.block_lt_of_cell? w4 ⟨c, o1, none⟩ y0
        have ltz : b0 < w4.heap.size := World.block_lt_of_cell? w4 ⟨b0, 0, none⟩ z0
        have ltT : tb' < w4.heap.size := World.block_lt_of_cell? w4 ⟨tb', tof' + 2, none⟩ x2
        obtain ⟨c2, o2, q, rfl, hq, hcq⟩ := HO0.out.at hin
        have yq := hcq w4 HAG4.out
        have ltq : c2 < w4.heap.size := World.block_lt_of_cell? w4 ⟨c2, o2 + kn, none⟩ yq
        obtain ⟨bq, rfl⟩ := hq.ptr
        have HQ := Lib.hid hq
        clear hcq hq
        go_wp2_with fail
        have hL5 := later_cell w4
        refine wp_region_later (by kernel_rfl) (by kernel_rfl) ?_
        repeat (go_big_quiet_step (fail))
        refine wpQuiet_nil ?_
        intro w5 hw'
        obtain ⟨⟨w5', hb5⟩, hw''⟩ := hw'
        subst hw''
        have HB5 := Lib.hid hb5
        clear hb5 hL5
        go_wp2_with fail
        go_meet
        exact ⟨rfl, v0.args.getD kn nov, worked s', S', vw', HSTN, Lib.hid ⟨HBD.out, HNX.out⟩, Lib.hid ((HQ.out.mono (Ext.below HB4.out).mem).mono (Ext.below HB5.out).mem), Lib.hid ((HA4.out.later HB5.out).less (by omega))⟩
      · obtain ⟨z0, z1, z2, z3⟩ := HO0.out.c3 k0 wM HAG.out
        have ltz : b0 < wM.heap.size := World.block_lt_of_cell? wM ⟨b0, 0, none⟩ z0
        have hf3 : (v0.n + 1 == 0) = false := by have := o3 k0; rw [beq_eq_false_iff_ne]; omega
        have hf4 : 0 < v0.n + 1 := by have := o3 k0; omega
        have HSTK : Hid (stepT t' env' (worked s') = .stop true 0 [] (worked s')) := Lib.hid (by rw [HST.out, if_neg (by omega)])
        clear k0 o3
        go_wp2_with fail
        have hL4 := later_cell wM
        refine wp_region_later (by kernel_rfl) (by kernel_rfl) ?_
        repeat (go_big_quiet_step (fail))
        refine wpQuiet_nil ?_
        intro w4 hw'
        obtain ⟨⟨w4', hb4⟩, hw''⟩ := hw'
        subst hw''
        have HB4 := Lib.hid hb4
        clear hb4 hL4
        go_wp2_with fail
        go_ret2
        exact (HA2.out.later HB4.out).ends HSTK.out HO.out rfl (by omega) (by omega)
    · as_aux_lemma =>
      rw [formedB_5 hk, decide_eq_true_iff] at hfm
      have HST := Lib.hid (step_5 (e := env') (s := worked s') hk)
      have HA0 : Hid (0 < (t'.args.map (atomV env')).length) := Lib.hid (by simp; omega)
      have q1 : (t'.kind == 1) = false := by rw [hk]; rfl
      have q2 : (t'.kind == 2) = false := by rw [hk]; rfl
      have q9 : (t'.kind == 9) = false := by rw [hk]; rfl
      have q3 : (t'.kind == 3) = false := by rw [hk]; rfl
      have q10 : (t'.kind == 10) = false := by rw [hk]; rfl
      have q5 : (t'.kind == 5) = true := by rw [hk]; rfl
      have q6 : (t'.kind == 6) = false := by rw [hk]; rfl
      have q7 : (t'.kind == 7) = false := by rw [hk]; rfl
      clear hk hfm x7
      go_wp2_with fail
      go_ret2
      exact HA2.out.calls HST.out HO.out HAR.out HA0.out
    · as_aux_lemma =>
      rw [formedB_6 hk, decide_eq_true_iff] at hfm
      obtain ⟨_, _, _, ha, htg⟩ := hfm
      have ha0 : 0 < t'.args.length := by omega
      have HLN := Lib.hid (tagged_len htg).1
      have HK := Lib.hid hk
      have q1 : (t'.kind == 1) = false := by rw [hk]; rfl
      have q2 : (t'.kind == 2) = false := by rw [hk]; rfl
      have q9 : (t'.kind == 9) = false := by rw [hk]; rfl
      have q3 : (t'.kind == 3) = false := by rw [hk]; rfl
      have q10 : (t'.kind == 10) = false := by rw [hk]; rfl
      have q5 : (t'.kind == 5) = false := by rw [hk]; rfl
      have q6 : (t'.kind == 6) = true := by rw [hk]; rfl
      have q7 : (t'.kind == 7) = false := by rw [hk]; rfl
      obtain ⟨c, o1, b0, ab0, ac0, rfl, hle, hc0, O0, _⟩ := args_at0 HAR.out (by omega)
      have y0 := hc0 wM HAG.out
      have lty : c < wM.heap.size := World.block_lt_of_cell? wM ⟨c, o1, none⟩ y0
      clear hk ha htg hc0
      obtain ⟨v0, hv0⟩ : ∃ v, atomV env' (t'.args.getD 0 atm0) = v := ⟨_, rfl⟩
      rw [hv0] at O0
      have HV0 := Lib.hid hv0
      have HO0 := Lib.hid O0
      have o3 := O0.h3
      have o4 := O0.inn.2
      clear O0 hv0
      have hkd : v0.kind = 1 ∨ v0.kind = 2 ∨ v0.kind = 3 := HO0.out.hk
      rcases hkd with k0 | k0 | k0
      · obtain ⟨z0, z1, z2, z3⟩ := HO0.out.c1 k0 wM HAG.out
        have ltz : b0 < wM.heap.size := World.block_lt_of_cell? wM ⟨b0, 0, none⟩ z0
        have harm := step_arm (env := env') (s := worked s') HK.out HLN.out true (by rw [HV0.out]; exact .inl ⟨rfl, k0⟩)
        rw [HV0.out] at harm
        have HAM := Lib.hid (fun (s : Later wM) => Calls.later_of ((arm_any HA2.out.hT true v0.n s.val (HA2.out.ag.later s.property)).mono (R' := fun e w' => e = .returned (.int .i64 (armF t' true v0.n)) ∧ Below s.val.heap.size s.val w') (fun e w' h => ⟨h.1, by obtain ⟨_, k, hk⟩ := h; rw [hk]; exact below_drewN (Below.refl _ _) k⟩)))
        have HARM := Lib.hid harm
        generalize armF t' true v0.n = A at HAM HARM
        clear harm k0 o3
        rcases HARM.out with ⟨hneg, hst⟩ | ⟨j, rfl, hlt, hst⟩
        · have HSTK := Lib.hid hst
          clear hst HARM
          go_wp2_with fail
          have hL4 := later_cell wM
          refine wp_region_later (by kernel_rfl) (by kernel_rfl) ?_
          repeat (go_big_quiet_step ((go_at_call 62; exact HAM.out _)))
          refine wpQuiet_nil ?_
          intro w4 hw'
          obtain ⟨⟨w4', hb4⟩, hw''⟩ := hw'
          subst hw''
          have HB4 := Lib.hid hb4
          clear hb4 hL4
          go_wp2_with fail
          go_ret2
          exact (HA2.out.later HB4.out).ends HSTK.out HO.out rfl (by omega) (by omega)
        · have HSTN := Lib.hid hst
          obtain ⟨nbb, nbo, rfl, hTn⟩ := next_tm HO8.out hlt
          have HTN := Lib.hid hTn
          have nle := HO8.out.nle
          have nbd := HO8.out.nbd
          clear hst HARM hTn
          go_wp2_with fail
          have hL4 := later_cell wM
          refine wp_region_later (by kernel_rfl) (by kernel_rfl) ?_
          repeat (go_big_quiet_step ((go_at_call 62; exact HAM.out _)))
          refine wpQuiet_nil ?_
          intro w4 hw'
          obtain ⟨⟨w4', hb4⟩, hw''⟩ := hw'
          subst hw''
          have HA4 := Lib.hid (HA2.out.later hb4)
          clear hb4 hL4 x7
          obtain ⟨_, _, _, _, _, _, _, x7⟩ := HCELL.out w4 HA4.out.ag
          have HG := Lib.hid ((HA4.out.less (k' := 0) (by omega)).goes HSTN.out HO.out hlt HA4.out.rn HA4.out.envm (Ext.refl _ _) HTN.out)
          go_wp2_with fail
          go_roundg (tcount t'.next[j])
          case measure => rw [HGG.out]; exact HG.out.2.2
          case rel => exact ⟨nbb, nbo + j * 8, t'.next[j], env', worked s', vw', S', rfl, rfl, Lib.hid HG.out.1, Lib.hid HG.out.2.1⟩
      · obtain ⟨z0, z1, z2, z3⟩ := HO0.out.c2 k0 wM HAG.out
        have ltz : b0 < wM.heap.size := World.block_lt_of_cell? wM ⟨b0, 0, none⟩ z0
        have harm := step_arm (env := env') (s := worked s') HK.out HLN.out false (by rw [HV0.out]; exact .inr ⟨rfl, k0⟩)
        rw [HV0.out] at harm
        have HAM := Lib.hid (fun (s : Later wM) => Calls.later_of ((arm_any HA2.out.hT false v0.n s.val (HA2.out.ag.later s.property)).mono (R' := fun e w' => e = .returned (.int .i64 (armF t' false v0.n)) ∧ Below s.val.heap.size s.val w') (fun e w' h => ⟨h.1, by obtain ⟨_, k, hk⟩ := h; rw [hk]; exact below_drewN (Below.refl _ _) k⟩)))
        have HARM := Lib.hid harm
        generalize armF t' false v0.n = A at HAM HARM
        clear harm k0 o3
        rcases HARM.out with ⟨hneg, hst⟩ | ⟨j, rfl, hlt, hst⟩
        · have HSTK := Lib.hid hst
          clear hst HARM
          go_wp2_with fail
          have hL4 := later_cell wM
          refine wp_region_later (by kernel_rfl) (by kernel_rfl) ?_
          repeat (go_big_quiet_step ((go_at_call 62; exact HAM.out _)))
          refine wpQuiet_nil ?_
          intro w4 hw'
          obtain ⟨⟨w4', hb4⟩, hw''⟩ := hw'
          subst hw''
          have HB4 := Lib.hid hb4
          clear hb4 hL4
          go_wp2_with fail
          go_ret2
          exact (HA2.out.later HB4.out).ends HSTK.out HO.out rfl (by omega) (by omega)
        · have HSTN := Lib.hid hst
          obtain ⟨nbb, nbo, rfl, hTn⟩ := next_tm HO8.out hlt
          have HTN := Lib.hid hTn
          have nle := HO8.out.nle
          have nbd := HO8.out.nbd
          clear hst HARM hTn
          go_wp2_with fail
          have hL4 := later_cell wM
          refine wp_region_later (by kernel_rfl) (by kernel_rfl) ?_
          repeat (go_big_quiet_step ((go_at_call 62; exact HAM.out _)))
          refine wpQuiet_nil ?_
          intro w4 hw'
          obtain ⟨⟨w4', hb4⟩, hw''⟩ := hw'
          subst hw''
          have HA4 := Lib.hid (HA2.out.later hb4)
          clear hb4 hL4 x7
          obtain ⟨_, _, _, _, _, _, _, x7⟩ := HCELL.out w4 HA4.out.ag
          have HG := Lib.hid ((HA4.out.less (k' := 0) (by omega)).goes HSTN.out HO.out hlt HA4.out.rn HA4.out.envm (Ext.refl _ _) HTN.out)
          go_wp2_with fail
          go_roundg (tcount t'.next[j])
          case measure => rw [HGG.out]; exact HG.out.2.2
          case rel => exact ⟨nbb, nbo + j * 8, t'.next[j], env', worked s', vw', S', rfl, rfl, Lib.hid HG.out.1, Lib.hid HG.out.2.1⟩
      · obtain ⟨z0, z1, z2, z3⟩ := HO0.out.c3 k0 wM HAG.out
        have hf3 : (v0.n + 1 == 0) = false := by have := o3 k0; rw [beq_eq_false_iff_ne]; omega
        have HSTK : Hid (stepT t' env' (worked s') = .stop true 0 [] (worked s')) := Lib.hid (step_arm3 HK.out (by rw [HV0.out]; exact k0))
        clear k0 o3
        go_wp2_with fail
        go_ret2
        exact HA2.out.ends HSTK.out HO.out rfl (by omega) (by omega)
    · as_aux_lemma =>
      rw [formedB_7 hk, decide_eq_true_iff] at hfm
      obtain ⟨_, _, _, _, _, ha, hnx⟩ := hfm
      have ha0 : 0 < t'.args.length := by omega
      have hn0 : 0 < t'.next.length := by omega
      have HST := Lib.hid (step_7 (e := env') (s := worked s') hk)
      have q1 : (t'.kind == 1) = false := by rw [hk]; rfl
      have q2 : (t'.kind == 2) = false := by rw [hk]; rfl
      have q9 : (t'.kind == 9) = false := by rw [hk]; rfl
      have q3 : (t'.kind == 3) = false := by rw [hk]; rfl
      have q10 : (t'.kind == 10) = false := by rw [hk]; rfl
      have q5 : (t'.kind == 5) = false := by rw [hk]; rfl
      have q6 : (t'.kind == 6) = false := by rw [hk]; rfl
      have q7 : (t'.kind == 7) = true := by rw [hk]; rfl
      obtain ⟨c, o1, b0, ab0, ac0, rfl, hle, hc0, O0, _⟩ := args_at0 HAR.out (by omega)
      have y0 := hc0 wM HAG.out
      have lty : c < wM.heap.size := World.block_lt_of_cell? wM ⟨c, o1, none⟩ y0
      have HC0 := Lib.hid hc0
      clear hk ha hnx hc0
      generalize atomV env' (t'.args.getD 0 atm0) = v0 at HST O0
      have HO0 := Lib.hid O0
      clear O0
      by_cases k0 : v0.kind = 1
      rotate_left
      · have HSTK : Hid (stepT t' env' (worked s') = .stop true 0 [] (worked s')) := Lib.hid (by rw [HST.out, if_neg k0])
        have z0 : wM.cell? ⟨b0, 0, none⟩ = some (.bool false) := by have := (HO0.out.cells wM HAG.out).1; rwa [decide_eq_false k0] at this
        clear k0
        go_wp2_with fail
        go_ret2
        exact HA2.out.ends HSTK.out HO.out rfl (by omega) (by omega)
      obtain ⟨z0, z1, _, _⟩ := HO0.out.c1 k0 wM HAG.out
      have HST1 := Lib.hid (HST.out.trans (if_pos k0))
      clear k0 HST
      have hrow := HA2.out.rn.ownW
      obtain ⟨ao, cap, rfl⟩ := ownsRow_slice hrow
      have HROW := Lib.hid hrow
      have c6 := HA2.out.rn.c6
      have f6 := HA2.out.rn.fz 6
      have hlw := HA2.out.rn.lenW
      clear hrow
      by_cases h4 : (worked s').writes.length = 4096
      · have HSTK := Lib.hid (HST1.out.trans (if_pos h4))
        have hq4 : (((worked s').writes.length : Int) == 4096) = true := by rw [beq_iff_eq]; omega
        clear h4
        go_wp2_with fail
        go_ret2
        exact HA2.out.ends HSTK.out HO.out rfl (by omega) (by omega)
      have HSTN := Lib.hid (HST1.out.trans (if_neg h4))
      have hq4 : (((worked s').writes.length : Int) == 4096) = false := by rw [beq_eq_false_iff_ne]; omega
      have hl4 : (worked s').writes.length < 4096 := by omega
      obtain ⟨nbb, nbo, rfl, hTn⟩ := next_tm0 HO8.out hn0
      have HTN := Lib.hid hTn
      have nle := HO8.out.nle
      have hbase : base ≤ wM.heap.size := by have := HA2.out.rn.new R HA2.out.rn.inS; omega
      clear h4 hTn
      go_wp2_with fail
      refine wp_region_st [13, 14, 15] (WJ (wM.drew) (wM.drew.alloc (.cells #[.int .i64 v0.n] 3))) (wPost R base wM.drew (wM.drew.alloc (.cells #[.int .i64 v0.n] 3)) ao cap c o1 t'.args.length vc b0 v0.n (worked s').writes) (by kernel_rfl) (by kernel_rfl) (WJ.start _ _) (by kernel_rfl) ?_ ?_
      · refine ⟨?_, ?_, ?_, ?_, ?_, ?_, ?_, ?_, ?_, ?_, ?_, ?_, ?_, ?_, ?_, ?_, trivial⟩
        all_goals (first | (rw [if_pos (by decide)]; trivial) | rw [if_neg (by decide)])
        · intro ac wx dn hJ hd hold hpre K hK
          have h1 := hold 0 (by decide)
          simp [Act.eval] at h1
          clear hold hpre
          go_simp
          exact hK _ _ (hJ.other (i := 0) (by decide) (by intro k hk h7 h10; omega)) rfl (fun _ _ _ h => h)
        · intro ac wx dn hJ hd hold hpre K hK
          have h1 := hold 0 (by decide)
          simp [Act.eval] at h1
          clear hold hpre
          go_simp
          exact hK _ _ (hJ.other (i := 1) (by decide) (by intro k hk h7 h10; omega)) rfl (fun _ _ _ h => h)
        · intro ac wx dn hJ hd hold hpre K hK
          obtain ⟨hd1, h1⟩ := hpre 1 _ 289 rfl rfl (by kernel_rfl)
          simp [Act.eval, wPost] at h1
          clear hold hpre
          go_simp
          exact hK _ _ (hJ.other (i := 2) (by decide) (by intro k hk h7 h10; first | omega | (have hk' : k = 1 := (by omega); subst hk'; exact hd1))) rfl (fun _ _ _ h => h)
        · intro ac wx dn hJ hd hold hpre K hK
          obtain ⟨hd1, h1⟩ := hpre 2 _ 290 rfl rfl (by kernel_rfl)
          simp [Act.eval, wPost] at h1
          clear hold hpre
          go_simp
          exact hK _ _ (hJ.other (i := 3) (by decide) (by intro k hk h7 h10; first | omega | (have hk' : k = 2 := (by omega); subst hk'; exact hd1))) rfl (fun _ _ _ h => h)
        · intro ac wx dn hJ hd hold hpre K hK
          obtain ⟨hd1, h1⟩ := hpre 3 _ 291 rfl rfl (by kernel_rfl)
          simp [Act.eval, wPost] at h1
          have hcell := (WJ.cell hJ hd (.inl rfl) c6)
          clear hold hpre
          go_simp
          exact hK _ _ (hJ.other (i := 4) (by decide) (by intro k hk h7 h10; first | omega | (have hk' : k = 3 := (by omega); subst hk'; exact hd1))) rfl (fun _ _ _ h => h)
        · intro ac wx dn hJ hd hold hpre K hK
          have h1 := hold 8 (by decide)
          simp [Act.eval] at h1
          clear hold hpre
          go_simp
          exact hK _ _ (hJ.other (i := 5) (by decide) (by intro k hk h7 h10; omega)) rfl (fun _ _ _ h => h)
        · intro ac wx dn hJ hd hold hpre K hK
          obtain ⟨hd1, h1⟩ := hpre 5 _ 293 rfl rfl (by kernel_rfl)
          simp [Act.eval, wPost] at h1
          clear hold hpre
          go_simp
          exact hK _ _ (hJ.other (i := 6) (by decide) (by intro k hk h7 h10; first | omega | (have hk' : k = 5 := (by omega); subst hk'; exact hd1))) rfl (fun _ _ _ h => h)
        · intro ac wx dn hJ hd hold hpre K hK
          obtain ⟨hd1, h1⟩ := hpre 6 _ 294 rfl rfl (by kernel_rfl)
          simp [Act.eval, wPost] at h1
          have hcell := (WJ.cell hJ hd (.inr (.inl rfl)) y0)
          clear hold hpre
          go_simp
          exact hK _ _ (hJ.other (i := 7) (by decide) (by intro k hk h7 h10; first | omega | (have hk' : k = 6 := (by omega); subst hk'; exact hd1))) rfl (fun _ _ _ h => h)
        · intro ac wx dn hJ hd hold hpre K hK
          obtain ⟨hd1, h1⟩ := hpre 7 _ 295 rfl rfl (by kernel_rfl)
          simp [Act.eval, wPost] at h1
          clear hold hpre
          go_simp
          exact hK _ _ (hJ.other (i := 8) (by decide) (by intro k hk h7 h10; first | omega | (have hk' : k = 7 := (by omega); subst hk'; exact hd1))) rfl (fun _ _ _ h => h)
        · intro ac wx dn hJ hd hold hpre K hK
          obtain ⟨hd1, h1⟩ := hpre 8 _ 296 rfl rfl (by kernel_rfl)
          simp [Act.eval, wPost] at h1
          clear hold hpre
          go_simp
          exact hK _ _ (hJ.other (i := 9) (by decide) (by intro k hk h7 h10; first | omega | (have hk' : k = 8 := (by omega); subst hk'; exact hd1))) rfl (fun _ _ _ h => h)
        · intro ac wx dn hJ hd hold hpre K hK
          obtain ⟨hd1, h1⟩ := hpre 9 _ 297 rfl rfl (by kernel_rfl)
          simp [Act.eval, wPost] at h1
          have hcell := (WJ.cell hJ hd (.inr (.inr (.inl rfl))) z1)
          clear hold hpre
          go_simp
          exact hK _ _ (hJ.other (i := 10) (by decide) (by intro k hk h7 h10; first | omega | (have hk' : k = 9 := (by omega); subst hk'; exact hd1))) rfl (fun _ _ _ h => h)
        · intro ac wx dn hJ hd hold hpre K hK
          obtain ⟨hd1, h1⟩ := hpre 10 _ 298 rfl rfl (by kernel_rfl)
          simp [Act.eval, wPost] at h1
          have hw := hJ.world11 hd
          subst hw
          clear hold hpre
          go_simp
          exact hK _ _ (hJ.build hd1) rfl (fun j u hj h => wPost_stable (by rintro rfl; rw [hJ.no12 hd (by omega)] at hj; cases hj) h)
        · intro ac wx dn hJ hd hold hpre K hK
          obtain ⟨hd1, h1⟩ := hpre 4 _ 292 rfl rfl (by kernel_rfl)
          obtain ⟨hd2, h2⟩ := hpre 11 _ 299 rfl rfl (by kernel_rfl)
          have hw := hJ.world12 hd hd2
          subst hw
          clear hold hpre
          refine op_push rfl (.tmp 292) (.tmp 299) rfl Try.underlying30 hiI hy0 hy1 hy2 (by decide) h1 (HROW.out.drew.alloc _) (a := ⟨wM.heap.size, 0, none⟩) (c := 1) (y := .int .i64 v0.n) h2 ((BoxAt.new wM.drew [.int .i64 v0.n] 3).2 0 _ rfl) rfl (by unfold maxLen; omega) (by omega) (by simp; omega) ?_
          intro v' w3 hp
          exact hK _ _ (hJ.append hd1 hd2) hp (fun j u hj h => wPost_stable (by rintro rfl; rw [hd] at hj; cases hj) h)
      · intro vals wx dn hdn hJ hv
        have hp : Pushed base 3 (wM.drew.alloc (.cells #[.int .i64 v0.n] 3)) wx (.slice ao (worked s').writes.length cap) (vals 12) ((worked s').writes.length + 1) ((worked s').writes.map (.int .i64) ++ [.int .i64 v0.n]) := hv 12 _ 300 rfl rfl (by decide)
        have hv0 : vals 0 = .pointer (some ⟨R, 0, none⟩) := hv 0 _ 288 rfl rfl (by decide)
        clear hv
        simp only [fillA, List.contains_cons, List.contains_nil, Nat.reduceAdd, Nat.reduceBEq, Bool.or_false, Bool.or_true, Bool.false_eq_true, if_true, if_false, Act.put, List.setIfInBounds_toArray, List.set_cons_zero, List.set_cons_succ, hv0]
        simp only [List.filterMap_cons, List.filterMap_nil, List.getElem?_toArray, List.getElem?_cons_succ, List.getElem?_cons_zero]
        generalize vals 12 = v12 at hp ⊢
        generalize vals 1 = u1
        generalize vals 2 = u2
        generalize vals 3 = u3
        generalize vals 4 = u4
        generalize vals 5 = u5
        generalize vals 6 = u6
        generalize vals 7 = u7
        generalize vals 8 = u8
        generalize vals 9 = u9
        generalize vals 10 = u10
        generalize vals 11 = u11
        obtain ⟨pg, pcap, rfl⟩ := hp.some
        have HP := Lib.hid (hp.ofBelow (w := wM) ((Below.refl _ _).drew.trans ((below_box wM.drew (.cells #[.int .i64 v0.n] 3)).mono (Nat.le_refl _))))
        have HA5 := Lib.hid ((HA2.out.less (k' := 0) (by omega)).pushW HP.out HO0.out.inn hl4)
        have hR3 : wx.heap[R]? = wM.heap[R]? := HP.out.gr.block _ ltR (fun e => HA2.out.rn.ne e.symm)
        have c63 := (World.cell?_of_block (a := ⟨R, 6, none⟩) hR3).trans c6
        have f63 := (World.frozen?_of_block (a := ⟨R, 6, none⟩) hR3).trans f6
        have hsz := HP.out.gr.size
        obtain ⟨_, _, _, _, _, _, _, x75⟩ := HCELL.out _ HA5.out.ag
        clear hR3 hp hdn hJ hv0
        go_wp2_with fail
        have HG := Lib.hid (HA5.out.goes HSTN.out HO.out hn0 HA5.out.rn HA5.out.envm (Ext.refl _ _) HTN.out)
        go_roundg (tcount t'.next[0])
        case measure => rw [HGG.out]; exact HG.out.2.2
        case rel => exact ⟨nbb, nbo, t'.next[0], env', _, _, _, rfl, rfl, Lib.hid HG.out.1, Lib.hid HG.out.2.1⟩
    · as_aux_lemma =>
      rw [formedB_8 hk, decide_eq_true_iff] at hfm
      obtain ⟨_, _, _, _, _, ha, hnx⟩ := hfm
      have ha0 : 0 < t'.args.length := by omega
      have HST := Lib.hid (step_8 (e := env') (s := worked s') hk)
      have q1 : (t'.kind == 1) = false := by rw [hk]; rfl
      have q2 : (t'.kind == 2) = false := by rw [hk]; rfl
      have q9 : (t'.kind == 9) = false := by rw [hk]; rfl
      have q3 : (t'.kind == 3) = false := by rw [hk]; rfl
      have q10 : (t'.kind == 10) = false := by rw [hk]; rfl
      have q5 : (t'.kind == 5) = false := by rw [hk]; rfl
      have q6 : (t'.kind == 6) = false := by rw [hk]; rfl
      have q7 : (t'.kind == 7) = false := by rw [hk]; rfl
      obtain ⟨c, o1, b0, ab0, ac0, rfl, hle, hc0, O0, hrv⟩ := args_at0 HAR.out (by omega)
      have y0 := hc0 wM HAG.out
      have lty : c < wM.heap.size := World.block_lt_of_cell? wM ⟨c, o1, none⟩ y0
      generalize atomV env' (t'.args.getD 0 atm0) = v0 at HST O0 hrv
      have HSH := Lib.hid (rshow_any v0 (memB S' wM) _ hrv wM wM.heap.size (.slice none 0 0) [] HAG.out (fun a u ha => World.block_lt_of_cell? wM a (HAG.out a u ha)) (Nat.le_refl _) (World.ownsRow_nil _ _ _ _) (by simp) (by simp))
      clear hk ha hnx hc0 x7 O0 hrv
      go_wp2_with (go_at_call 63; refine HSH.out.mono ?_; clear HSH; rintro e w4 ⟨vl4, xs4, en4, rfl, hb4, ho4, hx4, hl4, hs4⟩; obtain ⟨sa4, sc4, rfl⟩ := ownsRow_slice ho4; have HA4 := Lib.hid (HA2.out.later hb4); have c74 := HA4.out.rn.c7; have f74 := HA4.out.rn.fz 7; have l74 := HA4.out.rn.ltR; have HO4 := Lib.hid ho4; have HX4 := Lib.hid hx4; have HS4 := Lib.hid hs4; clear hb4 ho4 hx4 hs4)
      go_ret2
      have hrn := HA4.out.rn.set 7 (.slice sa4 xs4.length sc4) (s' := worked s') (steps' := steps) (vs' := .slice sa4 xs4.length sc4) rfl (if_neg (by omega)) (if_neg (by omega)) (if_neg (by omega)) (if_pos rfl) (by omega)
      have hext := HA4.out.ext.trans (HA4.out.rn.ext 7 (.slice sa4 xs4.length sc4))
      rw [← HO.out]
      have hs := HS4.out
      unfold ShIs at hs
      cases hsv : showV v0 [] with
      | inl q =>
        obtain ⟨st, en⟩ := q
        rw [hsv] at hs
        have hst := HST.out
        rw [hsv] at hst
        rw [bodyB_stop hst]
        have hh := showV_inl _ _ _ _ hsv
        obtain ⟨h1, h2⟩ := hs
        exact ⟨S', hext, vw', .slice sa4 xs4.length sc4, en4, rfl, hrn, h1, by rcases hh with ⟨rfl, rfl⟩ | ⟨rfl, rfl⟩ <;> simp at h1 <;> omega, fun e => absurd e h2⟩
      | inr l =>
        rw [hsv] at hs
        have hst := HST.out
        rw [hsv] at hst
        rw [bodyB_stop hst]
        obtain ⟨h1, h2⟩ := hs
        subst h2
        have hS4 : ∀ k ∈ S', k < wM.heap.size := HA2.out.rn.lt
        exact ⟨S', hext, vw', .slice sa4 xs4.length sc4, en4, rfl, hrn, h1, by omega, fun _ => rints_monoB (nwB_ext (HA4.out.rn.ext 7 (.slice sa4 xs4.length sc4))) (rints_nwB HO4.out HX4.out (by omega) hS4 HA2.out.ext.kept.size)⟩
    · as_aux_lemma =>
      rw [formedB_9 hk, decide_eq_true_iff] at hfm
      obtain ⟨_, _, _, ha, hnx, hn0, hn1, _⟩ := hfm
      have HNX : Hid (0 < t'.next.length) := Lib.hid (by omega)
      have HST := Lib.hid (step_9 (e := env') (s := worked s') hk)
      have HBD : Hid (bindsB t'.kind = true) := Lib.hid (by rw [hk]; rfl)
      have HIN := Lib.hid HO8.out.inn
      have hin2 := HO8.out.inn.2
      have hfl : f.funs.length ≤ 4096 := HA2.out.nfb
      have q1 : (t'.kind == 1) = false := by rw [hk]; rfl
      have q2 : (t'.kind == 2) = false := by rw [hk]; rfl
      have q9 : (t'.kind == 9) = true := by rw [hk]; rfl
      have q3 : (t'.kind == 3) = false := by rw [hk]; rfl
      have q10 : (t'.kind == 10) = false := by rw [hk]; rfl
      have q5 : (t'.kind == 5) = false := by rw [hk]; rfl
      have q6 : (t'.kind == 6) = false := by rw [hk]; rfl
      have q7 : (t'.kind == 7) = false := by rw [hk]; rfl
      have c4 := HA2.out.rn.c4
      have f4 := HA2.out.rn.fz 4
      obtain ⟨bw2, bm2⟩ := HA2.out.bounds
      clear hk hnx x7
      go_wp2_with fail
      go_meet
      have HB1 := Lib.hid (HA2.out.makes (n := t'.args.length) (by omega))
      have HB2 := Lib.hid (HB1.out.later (below_box _ (.cells #[.bool false, .int .i64 t'.n, .int .i64 0, .slice vb t'.args.length vc] 83)))
      have HB3 := Lib.hid (HB2.out.later (below_box _ (.cells #[.bool false, .int .i64 0, .int .i64 (t'.n + 1), .slice vb t'.args.length vc] 83)))
      have HRA := Lib.hid ((HAR.out.mono (HA2.out.rn.ext 4 (.int .i64 (((worked s').made : Int) + ((t'.args.length : Int) + 1)))).mem).mono (Ext.below (S := S') (below_box _ (.cells #[.bool false, .int .i64 t'.n, .int .i64 0, .slice vb t'.args.length vc] 83))).mem)
      refine ⟨rfl, .mk 3 t'.n (t'.args.map (atomV env')), _, S', vw', HST, Lib.hid ⟨HBD.out, HNX.out⟩, Lib.hid ?_, HB3⟩
      have h := RV.new (k := 3) (t := 83) (.inr (.inr rfl)) HIN.out (fun _ => ⟨by omega, by omega⟩) HRA.out HB2.out.rn.lt
      rw [World.size_alloc, size_setCell] at h
      exact h
    · as_aux_lemma =>
      rw [formedB_10 hk, decide_eq_true_iff] at hfm
      obtain ⟨_, _, _, ha, hnx, hn0, hn1⟩ := hfm
      have ha0 : 0 < t'.args.length := by omega
      have HNX : Hid (0 < t'.next.length) := Lib.hid (by omega)
      have HST := Lib.hid (step_10 (e := env') (s := worked s') hk)
      have HBD : Hid (bindsB t'.kind = true) := Lib.hid (by rw [hk]; rfl)
      obtain ⟨kn, hkn⟩ : ∃ kn : Nat, t'.n = kn := ⟨t'.n.toNat, by omega⟩
      have HKN := Lib.hid hkn
      have xc := HCELL.out
      have X2 := Lib.hid (fun (wx : World) (h : Ag m0 wx) => (show wx.cell? ⟨tb', tof' + 2, none⟩ = some (.int .i64 (kn : Int)) from by rw [← hkn]; exact (xc wx h).2.2.1))
      clear xc x2
      have x2 := X2.out wM HA2.out.ag
      have q1 : (t'.kind == 1) = false := by rw [hk]; rfl
      have q2 : (t'.kind == 2) = false := by rw [hk]; rfl
      have q9 : (t'.kind == 9) = false := by rw [hk]; rfl
      have q3 : (t'.kind == 3) = false := by rw [hk]; rfl
      have q10 : (t'.kind == 10) = true := by rw [hk]; rfl
      have q5 : (t'.kind == 5) = false := by rw [hk]; rfl
      have q6 : (t'.kind == 6) = false := by rw [hk]; rfl
      have q7 : (t'.kind == 7) = false := by rw [hk]; rfl
      obtain ⟨c, o1, b0, ab0, ac0, rfl, hle, hc0, O0, _⟩ := args_at0 HAR.out (by omega)
      have y0 := hc0 wM HAG.out
      have lty : c < wM.heap.size := World.block_lt_of_cell? wM ⟨c, o1, none⟩ y0
      have HC0 := Lib.hid hc0
      clear hk ha hnx hkn x7 hc0
      generalize atomV env' (t'.args.getD 0 atm0) = v0 at HST O0
      have HO0 := Lib.hid O0
      have o3 := O0.h3
      have o4 := O0.inn.2
      have o5 := O0.bd
      have o6 := O0.le
      clear O0
      have hkd : v0.kind = 1 ∨ v0.kind = 2 ∨ v0.kind = 3 := HO0.out.hk
      rcases hkd with k0 | k0 | k0
      · obtain ⟨z0, z1, z2, z3⟩ := HO0.out.c1 k0 wM HAG.out
        have ltz : b0 < wM.heap.size := World.block_lt_of_cell? wM ⟨b0, 0, none⟩ z0
        have HSTK : Hid (stepT t' env' (worked s') = .stop true 0 [] (worked s')) := Lib.hid (by rw [HST.out, if_neg (by omega)])
        clear k0 o3
        go_wp2_with fail
        have hL4 := later_cell wM
        refine wp_region_later (by kernel_rfl) (by kernel_rfl) ?_
        repeat (go_big_quiet_step (fail))
        refine wpQuiet_nil ?_
        intro w4 hw'
        obtain ⟨⟨w4', hb4⟩, hw''⟩ := hw'
        subst hw''
        have HB4 := Lib.hid hb4
        clear hb4 hL4
        go_wp2_with fail
        go_ret2
        exact (HA2.out.later HB4.out).ends HSTK.out HO.out rfl (by omega) (by omega)
      · obtain ⟨z0, z1, z2, z3⟩ := HO0.out.c2 k0 wM HAG.out
        have ltz : b0 < wM.heap.size := World.block_lt_of_cell? wM ⟨b0, 0, none⟩ z0
        have HSTK : Hid (stepT t' env' (worked s') = .stop true 0 [] (worked s')) := Lib.hid (by rw [HST.out, if_neg (by omega)])
        clear k0 o3
        go_wp2_with fail
        have hL4 := later_cell wM
        refine wp_region_later (by kernel_rfl) (by kernel_rfl) ?_
        repeat (go_big_quiet_step (fail))
        refine wpQuiet_nil ?_
        intro w4 hw'
        obtain ⟨⟨w4', hb4⟩, hw''⟩ := hw'
        subst hw''
        have HB4 := Lib.hid hb4
        clear hb4 hL4
        go_wp2_with fail
        go_ret2
        exact (HA2.out.later HB4.out).ends HSTK.out HO.out rfl (by omega) (by omega)
      · obtain ⟨z0, z1, z2, z3⟩ := HO0.out.c3 k0 wM HAG.out
        have ltz : b0 < wM.heap.size := World.block_lt_of_cell? wM ⟨b0, 0, none⟩ z0
        have hf3 : (v0.n + 1 == 0) = false := by have := o3 k0; rw [beq_eq_false_iff_ne]; omega
        have hf4 : 0 < v0.n + 1 := by have := o3 k0; omega
        by_cases hin : kn < v0.args.length
        rotate_left
        · have HSTK : Hid (stepT t' env' (worked s') = .stop true 0 [] (worked s')) := Lib.hid (by rw [HST.out, if_neg (by have := HKN.out; omega)])
          clear k0 o3
          go_wp2_with fail
          have hL4 := later_cell wM
          refine wp_region_later (by kernel_rfl) (by kernel_rfl) ?_
          repeat (go_big_quiet_step (fail))
          refine wpQuiet_nil ?_
          intro w4 hw'
          obtain ⟨⟨w4', hb4⟩, hw''⟩ := hw'
          subst hw''
          have HB4 := Lib.hid hb4
          clear hb4 hL4
          go_wp2_with fail
          go_ret2
          exact (HA2.out.later HB4.out).ends HSTK.out HO.out rfl (by omega) (by omega)
        have HSTN : Hid (stepT t' env' (worked s') = .next 0 (upd env' t'.x (v0.args.getD kn nov)) (worked s')) := Lib.hid (by rw [HST.out, if_pos ⟨k0, by have := HKN.out; omega⟩, HKN.out]; rfl)
        have HK0 := Lib.hid k0
        clear k0 o3
        go_wp2_with fail
        have hL4 := later_cell wM
        refine wp_region_later (by kernel_rfl) (by kernel_rfl) ?_
        repeat (go_big_quiet_step (fail))
        refine wpQuiet_nil ?_
        intro w4 hw'
        obtain ⟨⟨w4', hb4⟩, hw''⟩ := hw'
        subst hw''
        have HB4 := Lib.hid hb4
        clear hb4 hL4
        have HA4 := Lib.hid (HA2.out.later HB4.out)
        have HAG4 := Lib.hid (HAG.out.later HB4.out)
        clear x1 x2 y0 z0 z1 z2 z3
        have x2 := X2.out w4 HA4.out.ag
        have y0 := HC0.out w4 HAG4.out
        obtain ⟨z0, z1, z2, z3⟩ := HO0.out.c3 HK0.out w4 HAG4.out
        clear lty ltz ltT
        have lty : c < w4.heap.size := World.block_lt_of_cell? w4 ⟨c, o1, none⟩ y0
        have ltz : b0 < w4.heap.size := World.block_lt_of_cell? w4 ⟨b0, 0, none⟩ z0
        have ltT : tb' < w4.heap.size := World.block_lt_of_cell? w4 ⟨tb', tof' + 2, none⟩ x2
        obtain ⟨c2, o2, q, rfl, hq, hcq⟩ := HO0.out.at hin
        have yq := hcq w4 HAG4.out
        have ltq : c2 < w4.heap.size := World.block_lt_of_cell? w4 ⟨c2, o2 + kn, none⟩ yq
        obtain ⟨bq, rfl⟩ := hq.ptr
        have HQ := Lib.hid hq
        clear hcq hq
        go_wp2_with fail
        have hL5 := later_cell w4
        refine wp_region_later (by kernel_rfl) (by kernel_rfl) ?_
        repeat (go_big_quiet_step (fail))
        refine wpQuiet_nil ?_
        intro w5 hw'
        obtain ⟨⟨w5', hb5⟩, hw''⟩ := hw'
        subst hw''
        have HB5 := Lib.hid hb5
        clear hb5 hL5
        go_wp2_with fail
        go_meet
        exact ⟨rfl, v0.args.getD kn nov, worked s', S', vw', HSTN, Lib.hid ⟨HBD.out, HNX.out⟩, Lib.hid ((HQ.out.mono (Ext.below HB4.out).mem).mono (Ext.below HB5.out).mem), Lib.hid ((HA4.out.later HB5.out).less (by omega))⟩
  case rest =>
  as_aux_lemma =>
  obtain ⟨rfl, u, s2, S2, vw2, HST, HBN, HRV, HA6⟩ := hcut
  obtain ⟨wN, hwN⟩ : ∃ x : World, x = wc := ⟨_, rfl⟩
  subst hwN
  clear x0 x1 x2 x3 x4 x5 x6 x7 HAR HA2 HAG ltR
  have hn0 := HBN.out.2
  obtain ⟨nbb, nbo, rfl, hTn⟩ := next_tm0 HO8.out hn0
  have HTN := Lib.hid hTn
  have nle := HO8.out.nle
  obtain ⟨x0, x1, x2, x3, x4, x5, x6, x7⟩ := HCELL.out wN HA6.out.ag
  obtain ⟨bu, rfl⟩ := HRV.out.ptr
  obtain ⟨es, IM, hmap⟩ := HA6.out.envm.ex
  have HE := Lib.hid hmap
  obtain ⟨w7, hrun, hI7, hg7, hz7⟩ := run_mapUpdate_I Try.underlying86 Try.underlying3 IM t'.x (.pointer (some ⟨bu, 0, none⟩))
  have HK7 : Hid (Kept [eb] wN w7) := Lib.hid (Kept.grown hg7 (by simp))
  have HX7 : Hid (Ext S2 wN S2 w7) := Lib.hid (Ext.of ⟨hg7.os, hg7.tape, hg7.output, hg7.size, fun k hk hs => hg7.block k hk (fun e => hs (by injection e with e; rw [e]; exact HA6.out.heb))⟩)
  have HEN := Lib.hid (EnvM.put HE.out HRV.out hI7 HX7.out)
  have HRN : Hid (Rn R base Fb Fc f fuel w7 S2 steps s2 vw2 vs) := Lib.hid (HA6.out.rn.kept HK7.out (by simp; exact HA6.out.neR) (fun k hk hm => by simp at hm; subst hm; exact HA6.out.neRow hk))
  have HG := Lib.hid (HA6.out.goes HST.out HO.out hn0 HRN.out HEN.out HX7.out HTN.out)
  obtain ⟨_, _, _, _, _, _, _, x77⟩ := HCELL.out w7 HG.out.1.ag
  clear hmap IM hI7 hg7 hz7 hTn
  go_wp2_with fail
  go_roundg (tcount t'.next[0])
  case measure => rw [HGG.out]; exact HG.out.2.2
  case rel => exact ⟨nbb, nbo, t'.next[0], _, _, _, _, rfl, rfl, Lib.hid HG.out.1, Lib.hid HG.out.2.1⟩
end Go.Proofs.Ytimljadlfhccpaa
