/- The program's Good of a flat program. -/
import Derived.Test.YtimljadlfhccpaaProg
import Derived.Test.YtimljadlfhccpaaGoodE
set_option linter.all false
set_option linter.all false
set_option linter.all false
set_option linter.all false
namespace Go.Proofs.Ytimljadlfhccpaa
open Go.RowKit
set_option maxHeartbeats 2000000

theorem gspec {nf : Nat} {main : Int} (hf : FormedSpec nf main) (t : Term) : GSpec nf main t := by
  induction t using Term.ind with
  | h t _ ihn => exact good_step hf t ihn
theorem goodFuns_step {nf : Nat} {main : Int} {l : List (Int × List Int × Term)} {j : Nat} (hj : j < l.length) : goodFuns nf main j (l.drop j) = (goodFun nf main j l[j] && goodFuns nf main (j + 1) (l.drop (j + 1))) := by
  rw [List.drop_eq_getElem_cons hj, goodFuns]
theorem goodFlat_no {f : Flat} (h : f.funs.length = 0 ∨ 4096 < f.funs.length ∨ 65536 < fsize f.funs ∨ f.main < 0 ∨ f.funs.length ≤ f.main) : goodFlat f = false := by
  rw [← Bool.not_eq_true]
  simp only [goodFlat, Bool.and_eq_true, decide_eq_true_eq]
  rintro ⟨⟨⟨⟨⟨h1, h2⟩, h3⟩, h4⟩, h5⟩, _⟩
  omega
theorem goodFlat_yes {f : Flat} (h1 : ¬ f.funs.length = 0) (h2 : ¬ 4096 < f.funs.length) (h3 : ¬ 65536 < fsize f.funs) (h4 : ¬ f.main < 0) (h5 : ¬ (f.funs.length : Int) ≤ f.main) : goodFlat f = goodFuns f.funs.length f.main 0 f.funs := by
  unfold goodFlat
  rw [decide_eq_true (by omega : 1 ≤ f.funs.length), decide_eq_true (by omega : f.funs.length ≤ 4096), decide_eq_true (by omega : fsize f.funs ≤ 65536), decide_eq_true (by omega : 0 ≤ f.main), decide_eq_true (by omega : f.main < f.funs.length)]
  rfl
theorem Lk.make {w : World} {Fb : Option Addr} {nf Fc : Nat} {main : Int} {t : TypeId} {k mb ab : Nat} (hmb : mb = w.heap.size) (hab : ab = w.heap.size + 1) (hk : k = w.heap.size + 2) :
    Lk k mb ab Fb nf Fc main (((w.alloc (.map #[] 0)).alloc (.map #[] 0)).alloc (.cells #[.slice Fb nf Fc, .int .i64 main, .map (some mb), .map (some ab)] t)) [] [] := by
  subst hmb; subst hab; subst hk
  have hb := BoxAt.new ((w.alloc (.map #[] 0)).alloc (.map #[] 0)) [.slice Fb nf Fc, .int .i64 main, .map (some w.heap.size), .map (some (w.heap.size + 1))] t
  rw [show ((w.alloc (.map #[] 0)).alloc (.map #[] 0)).heap.size = w.heap.size + 2 by simp] at hb
  refine ⟨hb.2 0 _ rfl, hb.2 1 _ rfl, hb.2 2 _ rfl, hb.2 3 _ rfl, by omega, by simp, ⟨[], ((IMap.new w).below (below_box _ _)).below (below_box _ _), fun x => rfl⟩, ⟨[], (IMap.new' (w.alloc (.map #[] 0)) _ (by simp)).below (below_box _ _), fun x => rfl⟩⟩
theorem goodFun_no {nf : Nat} {main : Int} {i : Nat} {f : Int × List Int × Term} (h : ¬ f.1 = i ∨ f.2.1.length = 0 ∨ 17 < f.2.1.length ∨ ((i : Int) = main ∧ ¬ f.2.1.length = 1)) : goodFun nf main i f = false := by
  rw [← Bool.not_eq_true]
  simp only [goodFun, Bool.and_eq_true, decide_eq_true_eq, Bool.or_eq_true, Bool.not_eq_true', decide_eq_false_iff_not]
  rintro ⟨⟨⟨⟨h1, h2⟩, h3⟩, h4⟩, _⟩
  rcases h with h | h | h | ⟨h, h'⟩
  · exact h h1
  · omega
  · omega
  · rcases h4 with h4 | h4
    · exact h4 h
    · exact h' h4
theorem goodFun_yes {nf : Nat} {main : Int} {i : Nat} {f : Int × List Int × Term} (h1 : f.1 = i) (h2 : ¬ f.2.1.length = 0) (h3 : ¬ 17 < f.2.1.length) (h4 : (i : Int) = main → f.2.1.length = 1) :
    goodFun nf main i f = match bindL f.2.1 [] [] with | none => false | some p => (goodT nf main f.2.2 p.1 p.2).isSome := by
  unfold goodFun
  rw [decide_eq_true h1, decide_eq_true (by omega : 1 ≤ f.2.1.length), decide_eq_true (by omega : f.2.1.length ≤ 17)]
  have : (!decide ((i : Int) = main) || decide (f.2.1.length = 1)) = true := by
    by_cases h : (i : Int) = main
    · simp [h, h4 h]
    · simp [h]
  rw [this]
  simp only [Bool.true_and]
  cases bindL f.2.1 [] [] <;> rfl
theorem below_kept {w W w' : World} {S : List Nat} (hb : Below w.heap.size w W) (k : Kept S W w') (hS : ∀ s ∈ S, w.heap.size ≤ s) : Below w.heap.size w w' := hb.trans (k.toBelow hb.size hS)
/-- What binding the parameters leaves, in a looker that has just been made. -/
structure NewPost (wr : World) (c : List Value) (Fb : Option Addr) (nf Fc : Nat) (main : Int) (r : Option (List Int × List Int)) (e : Ending) (w' : World) : Prop where
  ret : e = .returned (.bool r.isSome)
  bel : Below wr.heap.size wr w'
  fin : ∀ p, r = some p → Lk (wr.heap.size + 1 + 1 + 1) (wr.heap.size + 1) (wr.heap.size + 1 + 1) Fb nf Fc main w' p.1 p.2 ∧ BoxAt wr.heap.size w' c
theorem binds_new {m : Mp} {pb : Option Addr} {pc : Nat} {l : List Int} (hp : RInts m (.slice pb l.length pc) l) (wr : World) (hm : Ag m wr) (c : List Value) (t1 : TypeId) (Fb : Option Addr) (nf Fc : Nat) (main : Int) (t2 : TypeId) :
    Calls Try.prog 21 #[.pointer (some ⟨wr.heap.size + 1 + 1 + 1, 0, none⟩), .slice pb l.length pc]
      ((((wr.alloc (.cells c.toArray t1)).alloc (.map #[] 0)).alloc (.map #[] 0)).alloc (.cells #[.slice Fb nf Fc, .int .i64 main, .map (some (wr.heap.size + 1)), .map (some (wr.heap.size + 1 + 1))] t2))
      (NewPost wr c Fb nf Fc main (bindL l [] [])) := by
  have hb : Below wr.heap.size wr ((((wr.alloc (.cells c.toArray t1)).alloc (.map #[] 0)).alloc (.map #[] 0)).alloc (.cells #[.slice Fb nf Fc, .int .i64 main, .map (some (wr.heap.size + 1)), .map (some (wr.heap.size + 1 + 1))] t2)) :=
    bgo (bgo (bgo (below_box _ _) (below_box _ _)) (below_box _ _)) (below_box _ _)
  have hl : Lk (wr.heap.size + 1 + 1 + 1) (wr.heap.size + 1) (wr.heap.size + 1 + 1) Fb nf Fc main ((((wr.alloc (.cells c.toArray t1)).alloc (.map #[] 0)).alloc (.map #[] 0)).alloc (.cells #[.slice Fb nf Fc, .int .i64 main, .map (some (wr.heap.size + 1)), .map (some (wr.heap.size + 1 + 1))] t2)) [] [] :=
    Lk.make (by simp) (by simp) (by simp)
  have hx : BoxAt wr.heap.size ((((wr.alloc (.cells c.toArray t1)).alloc (.map #[] 0)).alloc (.map #[] 0)).alloc (.cells #[.slice Fb nf Fc, .int .i64 main, .map (some (wr.heap.size + 1)), .map (some (wr.heap.size + 1 + 1))] t2)) c :=
    (((BoxAt.new wr c t1).later (below_box _ _)).later (below_box _ _)).later (below_box _ _)
  refine (binds_any hp (hm.later hb) hl).mono ?_
  rintro e w' ⟨rfl, hk, hlk⟩
  refine ⟨rfl, below_kept hb hk (by simp; omega), fun p hp => ⟨hlk p hp, Nat.lt_of_lt_of_le hx.1 hk.size, fun j v hj => hk.cell (hx.2 j v hj) (by simp; omega)⟩⟩
theorem good_new {nf : Nat} {main : Int} {t : Term} (hs : GSpec nf main t) {m : Mp} {c : List Value} (hr : RTerm m c t) {wr w2 : World} (hb : Below wr.heap.size wr w2) (hm : Ag m w2) {Fb : Option Addr} {Fc : Nat} {met A : List Int}
    (hk : Lk (wr.heap.size + 1 + 1 + 1) (wr.heap.size + 1) (wr.heap.size + 1 + 1) Fb nf Fc main w2 met A) :
    Calls Try.prog 22 #[.pointer (some ⟨wr.heap.size + 1 + 1 + 1, 0, none⟩), .agg c.toArray] w2 fun e w' => e = .returned (.bool (goodT nf main t met A).isSome) ∧ Below wr.heap.size wr w' := by
  refine (hs m c hr _ _ _ Fb Fc w2 met A hm hk).mono ?_
  rintro e w' ⟨rfl, hk, _⟩
  exact ⟨rfl, below_kept hb hk (by simp; omega)⟩
set_option maxRecDepth 100000 in
theorem flGood_of (hf : ∀ nf main, nf ≤ 4096 → FormedSpec nf main) {m : Mp} {v : Value} {f : Flat} (hr : RFlat m v f) (w : World) (hm : Ag m w) :
    Calls Try.prog 8 #[.agg #[v, .int .i64 f.main]] w fun e w' => e = .returned (.bool (goodFlat f)) ∧ Below w.heap.size w w' := by
  have Hsz := Lib.hid (fun (w' : World) (hb : Below w.heap.size w w') => flSize hr w' (hm.later hb))
  obtain ⟨fb, fcap, rfl, f1, f2, F3⟩ := hr.1.opn
  have HM := Lib.hid hm
  clear hr hm
  have hmm := @run_makeMap Try.prog
  by_cases h1 : f.funs.length = 0
  · have HF := Lib.hid (goodFlat_no (Or.inl h1))
    have q1 : ((f.funs.length : Int) == 0) = true := by rw [beq_iff_eq]; omega
    clear h1
    go_enter Try.func8, Try.ntmps8
    go_wp2_with fail
    go_ret
    exact ⟨by rw [HF.out]; rfl, below_box _ _⟩
  have q1 : ((f.funs.length : Int) == 0) = false := by rw [beq_eq_false_iff_ne]; omega
  by_cases h2 : 4096 < f.funs.length
  · have HF := Lib.hid (goodFlat_no (Or.inr (Or.inl h2)))
    clear h1
    go_enter Try.func8, Try.ntmps8
    go_wp2_with fail
    go_ret
    exact ⟨by rw [HF.out]; rfl, below_box _ _⟩
  by_cases h3 : 65536 < fsize f.funs
  · have HF := Lib.hid (goodFlat_no (Or.inr (Or.inr (Or.inl h3))))
    clear h1
    go_enter Try.func8, Try.ntmps8
    go_wp2_with (go_at_call 10; refine (Hsz.out _ (below_box _ _)).mono ?_; rintro e w1 ⟨rfl, hb1⟩)
    go_ret
    exact ⟨by rw [HF.out]; rfl, bgo (below_box _ _) hb1⟩
  by_cases h4 : f.main < 0
  · have HF := Lib.hid (goodFlat_no (Or.inr (Or.inr (Or.inr (Or.inl h4)))))
    clear h1
    go_enter Try.func8, Try.ntmps8
    go_wp2_with (go_at_call 10; refine (Hsz.out _ (below_box _ _)).mono ?_; rintro e w1 ⟨rfl, hb1⟩; have gb := (BoxAt.new w [.slice fb f.funs.length fcap, .int .i64 f.main] 24).later hb1; have g0 := gb.2 0 _ rfl; have g1 := gb.2 1 _ rfl)
    go_ret
    exact ⟨by rw [HF.out]; rfl, bgo (below_box _ _) hb1⟩
  by_cases h5 : (f.funs.length : Int) ≤ f.main
  · have HF := Lib.hid (goodFlat_no (Or.inr (Or.inr (Or.inr (Or.inr h5)))))
    clear h1
    go_enter Try.func8, Try.ntmps8
    go_wp2_with (go_at_call 10; refine (Hsz.out _ (below_box _ _)).mono ?_; rintro e w1 ⟨rfl, hb1⟩; have gb := (BoxAt.new w [.slice fb f.funs.length fcap, .int .i64 f.main] 24).later hb1; have g0 := gb.2 0 _ rfl; have g1 := gb.2 1 _ rfl)
    go_ret
    exact ⟨by rw [HF.out]; rfl, bgo (below_box _ _) hb1⟩
  have HG := Lib.hid (goodFlat_yes h1 h2 h3 h4 h5)
  have HS := Lib.hid (gspec (hf f.funs.length f.main (by omega)))
  clear h1
  go_enter Try.func8, Try.ntmps8
  go_wp2_with (go_at_call 10; refine (Hsz.out _ (below_box _ _)).mono ?_; rintro e w1 ⟨rfl, hb1⟩; have gb := (BoxAt.new w [.slice fb f.funs.length fcap, .int .i64 f.main] 24).later hb1; have g0 := gb.2 0 _ rfl; have g1 := gb.2 1 _ rfl; have z1 := gb.1; have HB1 := Lib.hid (bgo (below_box w _) hb1); clear gb hb1)
  go_loopg [37] (f.funs.length) (fun g i wr => ∃ j : Nat, j + g = f.funs.length ∧ i = .int .i64 j ∧ Hid (goodFuns f.funs.length f.main 0 f.funs = goodFuns f.funs.length f.main j (f.funs.drop j)) ∧ Hid (Below w.heap.size w wr) ∧ w.heap.size < wr.heap.size ∧ wr.cell? ⟨w.heap.size, 0, none⟩ = some (.slice fb f.funs.length fcap) ∧ wr.cell? ⟨w.heap.size, 1, none⟩ = some (.int .i64 f.main))
  case atStart => exact ⟨0, by omega, rfl, Lib.hid rfl, HB1, z1, g0, g1⟩
  case round =>
    clear g0 g1 z1
    obtain ⟨j, hj, rfl, hs, hbel, hsz, g0, g1⟩ := hrel
    by_cases hlt : j < f.funs.length
    · obtain ⟨b, o, pb, pc, tb, tc, ab, ac, fb', fc, nb, nc, rfl, ik, hp, hr, hcell⟩ := F3.out j hlt
      have hm := HM.out.later hbel.out
      obtain ⟨x0, x1, e0, e1, e2, e3, e4, e5, e6, e7⟩ := hcell _ hm
      obtain ⟨y1, y2, y3, y4, y5, y6, y7⟩ := flat7 e1 e2 e3 e4 e5 e6 e7
      clear e1 e2 e3 e4 e5 e6 e7
      have HMr := Lib.hid hm
      have HP := Lib.hid hp
      have HR := Lib.hid hr
      have p2 := hp.len
      have st := Lib.hid (goodFuns_step (nf := f.funs.length) (main := f.main) hlt)
      clear hm hp hr hcell ik
      by_cases n1 : f.funs[j].1 = j
      rotate_left
      · have t1 : (f.funs[j].1 != (j : Int)) = true := by rw [bne_iff_ne]; exact n1
        have HE : Hid (goodFlat f = false) := Lib.hid (by rw [HG.out, hs.out, st.out, goodFun_no (Or.inl n1)]; rfl)
        go_wp2_with fail
        go_ret
        exact ⟨by rw [HE.out]; rfl, bgo hbel.out (below_box _ _)⟩
      have t1 : (f.funs[j].1 != (j : Int)) = false := by rw [bne_eq_false_iff_eq]; exact n1
      have N1 := Lib.hid n1
      clear n1
      by_cases n2 : f.funs[j].2.1.length = 0
      · have t2 : ((f.funs[j].2.1.length : Int) == 0) = true := by rw [beq_iff_eq]; omega
        have N2 := Lib.hid n2
        clear n2
        have HE : Hid (goodFlat f = false) := Lib.hid (by rw [HG.out, hs.out, st.out, goodFun_no (Or.inr (Or.inl N2.out))]; rfl)
        go_wp2_with fail
        go_ret
        exact ⟨by rw [HE.out]; rfl, bgo hbel.out (below_box _ _)⟩
      have t2 : ((f.funs[j].2.1.length : Int) == 0) = false := by rw [beq_eq_false_iff_ne]; omega
      by_cases n3 : 17 < f.funs[j].2.1.length
      · skip
        have HE : Hid (goodFlat f = false) := Lib.hid (by rw [HG.out, hs.out, st.out, goodFun_no (Or.inr (Or.inr (Or.inl n3)))]; rfl)
        go_wp2_with fail
        go_ret
        exact ⟨by rw [HE.out]; rfl, bgo hbel.out (below_box _ _)⟩
      by_cases n4 : (j : Int) = f.main
      · have t4 : ((j : Int) == f.main) = true := by rw [beq_iff_eq]; exact n4
        have N4 := Lib.hid n4
        clear n4
        by_cases n5 : f.funs[j].2.1.length = 1
        rotate_left
        · have t5 : ((f.funs[j].2.1.length : Int) != 1) = true := by rw [bne_iff_ne]; omega
          have HE : Hid (goodFlat f = false) := Lib.hid (by rw [HG.out, hs.out, st.out, goodFun_no (Or.inr (Or.inr (Or.inr ⟨N4.out, n5⟩)))]; rfl)
          go_wp2_with fail
          go_ret
          exact ⟨by rw [HE.out]; rfl, bgo hbel.out (below_box _ _)⟩
        have t5 : ((f.funs[j].2.1.length : Int) != 1) = false := by rw [bne_eq_false_iff_eq]; omega
        have HY := Lib.hid (goodFun_yes (nf := f.funs.length) (main := f.main) N1.out n2 n3 (fun _ => n5))
        clear n5
        cases hbl : bindL f.funs[j].2.1 [] [] with
        | none =>
          have HE : Hid (goodFlat f = false) := Lib.hid (by rw [HG.out, hs.out, st.out, HY.out, hbl]; rfl)
          go_wp2_with (first | (go_at_call 21; refine (binds_new HP.out _ HMr.out _ _ _ _ _ _ _).mono ?_; rintro e w2 ⟨rfl, hb2, hf2⟩; have HB2 := Lib.hid hb2; have HF2 := Lib.hid hf2; clear hb2 hf2))
          go_ret
          exact ⟨by rw [HE.out]; rfl, bgo hbel.out HB2.out⟩
        | some p =>
          cases hgt : goodT f.funs.length f.main f.funs[j].2.2 p.1 p.2 with
          | none =>
            have HE : Hid (goodFlat f = false) := Lib.hid (by rw [HG.out, hs.out, st.out, HY.out, hbl]; simp only [hgt]; rfl)
            go_wp2_with (first | (go_at_call 21; refine (binds_new HP.out _ HMr.out _ _ _ _ _ _ _).mono ?_; rintro e w2 ⟨rfl, hb2, hf2⟩; rw [hbl] at hf2 ⊢; obtain ⟨hl2, hx2⟩ := hf2 _ rfl; have HB2 := Lib.hid hb2; have HL2 := Lib.hid hl2; have x2 := hx2.2 2 _ rfl; have x3 := hx2.2 3 _ rfl; have x4 := hx2.2 4 _ rfl; have x5 := hx2.2 5 _ rfl; have x6 := hx2.2 6 _ rfl; have x7 := hx2.2 7 _ rfl; have x8 := hx2.2 8 _ rfl; have x9 := hx2.2 9 _ rfl; have zz := hx2.1; clear hb2 hf2 hl2 hx2) | (go_at_call 22; refine (good_new (HS.out _) HR.out HB2.out (HMr.out.later HB2.out) HL2.out).mono ?_; rintro e w3 ⟨rfl, hb3⟩; have HB3 := Lib.hid hb3; clear hb3))
            go_ret
            exact ⟨by rw [HE.out]; rfl, bgo hbel.out HB3.out⟩
          | some met3 =>
            have HE : Hid (goodFuns f.funs.length f.main 0 f.funs = goodFuns f.funs.length f.main (j + 1) (f.funs.drop (j + 1))) := Lib.hid (by rw [hs.out, st.out, HY.out, hbl]; simp only [hgt]; rfl)
            go_wp2_with (first | (go_at_call 21; refine (binds_new HP.out _ HMr.out _ _ _ _ _ _ _).mono ?_; rintro e w2 ⟨rfl, hb2, hf2⟩; rw [hbl] at hf2 ⊢; obtain ⟨hl2, hx2⟩ := hf2 _ rfl; have HB2 := Lib.hid hb2; have HL2 := Lib.hid hl2; have x2 := hx2.2 2 _ rfl; have x3 := hx2.2 3 _ rfl; have x4 := hx2.2 4 _ rfl; have x5 := hx2.2 5 _ rfl; have x6 := hx2.2 6 _ rfl; have x7 := hx2.2 7 _ rfl; have x8 := hx2.2 8 _ rfl; have x9 := hx2.2 9 _ rfl; have zz := hx2.1; clear hb2 hf2 hl2 hx2) | (go_at_call 22; refine (good_new (HS.out _) HR.out HB2.out (HMr.out.later HB2.out) HL2.out).mono ?_; rintro e w3 ⟨rfl, hb3⟩; have HB3 := Lib.hid hb3; clear hb3))
            go_roundg (f.funs.length - (j + 1))
            case measure => omega
            case rel =>
              have hbf := HB3.out
              exact ⟨j + 1, by omega, by go_num, HE, bgo hbel.out hbf, Nat.lt_of_lt_of_le hsz hbf.size, (hbf.cell hsz).trans g0, (hbf.cell hsz).trans g1⟩
      · have t4 : ((j : Int) == f.main) = false := by rw [beq_eq_false_iff_ne]; exact n4
        have HY := Lib.hid (goodFun_yes (nf := f.funs.length) (main := f.main) N1.out n2 n3 (fun h => absurd h n4))
        cases hbl : bindL f.funs[j].2.1 [] [] with
        | none =>
          have HE : Hid (goodFlat f = false) := Lib.hid (by rw [HG.out, hs.out, st.out, HY.out, hbl]; rfl)
          go_wp2_with (first | (go_at_call 21; refine (binds_new HP.out _ HMr.out _ _ _ _ _ _ _).mono ?_; rintro e w2 ⟨rfl, hb2, hf2⟩; have HB2 := Lib.hid hb2; have HF2 := Lib.hid hf2; clear hb2 hf2))
          go_ret
          exact ⟨by rw [HE.out]; rfl, bgo hbel.out HB2.out⟩
        | some p =>
          cases hgt : goodT f.funs.length f.main f.funs[j].2.2 p.1 p.2 with
          | none =>
            have HE : Hid (goodFlat f = false) := Lib.hid (by rw [HG.out, hs.out, st.out, HY.out, hbl]; simp only [hgt]; rfl)
            go_wp2_with (first | (go_at_call 21; refine (binds_new HP.out _ HMr.out _ _ _ _ _ _ _).mono ?_; rintro e w2 ⟨rfl, hb2, hf2⟩; rw [hbl] at hf2 ⊢; obtain ⟨hl2, hx2⟩ := hf2 _ rfl; have HB2 := Lib.hid hb2; have HL2 := Lib.hid hl2; have x2 := hx2.2 2 _ rfl; have x3 := hx2.2 3 _ rfl; have x4 := hx2.2 4 _ rfl; have x5 := hx2.2 5 _ rfl; have x6 := hx2.2 6 _ rfl; have x7 := hx2.2 7 _ rfl; have x8 := hx2.2 8 _ rfl; have x9 := hx2.2 9 _ rfl; have zz := hx2.1; clear hb2 hf2 hl2 hx2) | (go_at_call 22; refine (good_new (HS.out _) HR.out HB2.out (HMr.out.later HB2.out) HL2.out).mono ?_; rintro e w3 ⟨rfl, hb3⟩; have HB3 := Lib.hid hb3; clear hb3))
            go_ret
            exact ⟨by rw [HE.out]; rfl, bgo hbel.out HB3.out⟩
          | some met3 =>
            have HE : Hid (goodFuns f.funs.length f.main 0 f.funs = goodFuns f.funs.length f.main (j + 1) (f.funs.drop (j + 1))) := Lib.hid (by rw [hs.out, st.out, HY.out, hbl]; simp only [hgt]; rfl)
            go_wp2_with (first | (go_at_call 21; refine (binds_new HP.out _ HMr.out _ _ _ _ _ _ _).mono ?_; rintro e w2 ⟨rfl, hb2, hf2⟩; rw [hbl] at hf2 ⊢; obtain ⟨hl2, hx2⟩ := hf2 _ rfl; have HB2 := Lib.hid hb2; have HL2 := Lib.hid hl2; have x2 := hx2.2 2 _ rfl; have x3 := hx2.2 3 _ rfl; have x4 := hx2.2 4 _ rfl; have x5 := hx2.2 5 _ rfl; have x6 := hx2.2 6 _ rfl; have x7 := hx2.2 7 _ rfl; have x8 := hx2.2 8 _ rfl; have x9 := hx2.2 9 _ rfl; have zz := hx2.1; clear hb2 hf2 hl2 hx2) | (go_at_call 22; refine (good_new (HS.out _) HR.out HB2.out (HMr.out.later HB2.out) HL2.out).mono ?_; rintro e w3 ⟨rfl, hb3⟩; have HB3 := Lib.hid hb3; clear hb3))
            go_roundg (f.funs.length - (j + 1))
            case measure => omega
            case rel =>
              have hbf := HB3.out
              exact ⟨j + 1, by omega, by go_num, HE, bgo hbel.out hbf, Nat.lt_of_lt_of_le hsz hbf.size, (hbf.cell hsz).trans g0, (hbf.cell hsz).trans g1⟩
    · have HE : Hid (goodFlat f = true) := Lib.hid (by rw [HG.out, hs.out, List.drop_eq_nil_of_le (by omega), goodFuns])
      go_wp2_with fail
      go_ret
      exact ⟨by rw [HE.out]; rfl, hbel.out⟩
end Go.Proofs.Ytimljadlfhccpaa
