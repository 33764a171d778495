/- The looker looks at atoms. The looker looks at a list of atoms. The looker looks at terms. -/
import Derived.Test.YtimljadlfhccpaaProg
import Derived.Test.YtimljadlfhccpaaMP
set_option linter.all false
set_option linter.all false
set_option linter.all false
set_option linter.all false
namespace Go.Proofs.Ytimljadlfhccpaa
open Go.RowKit
set_option maxHeartbeats 1000000

theorem atomClo {a : Atm} {B : Nat} {kb mb ab : Nat} {Fb : Option Addr} {nf Fc : Nat} {main : Int} {w : World} {met A : List Int} (hk : Lk kb mb ab Fb nf Fc main w met A) (hB : w.cell? ⟨B, 0, none⟩ = some (.pointer (some ⟨kb, 0, none⟩))) :
    Calls Try.prog 38 #[.agg #[.bool a.var, .int .i64 a.n], .pointer (some ⟨B, 0, none⟩)] w fun e w' => e = .returned (.bool (!atomOk A a)) ∧ Below w.heap.size w w' := by
  have hBs : B < w.heap.size := World.block_lt_of_cell? w _ hB
  have hks := hk.lt
  have c3 := hk.c3
  obtain ⟨esa, Ia, Ma⟩ := hk.ards
  have hax := Ma a.n
  clear hk Ma
  cases hv : a.var with
  | true =>
    cases hc : A.contains a.n with
    | true =>
      have hl : ∀ n, (Instr.lookup 53 (.map (some ab)) (.int .i64 a.n) false).run Try.prog ((w.alloc (.cells #[.bool true, .int .i64 a.n] 76)).drewN n) = .ok (.int .i64 1) ((w.alloc (.cells #[.bool true, .int .i64 a.n] 76)).drewN n) := fun n => by
        rw [run_lookup_I Try.underlying53 Try.underlying3 zero_int ((Ia.below (below_box _ _)).same (by rfl)) a.n false, hax, hc]; rfl
      have HF : Hid (atomOk A a = true) := Lib.hid (by unfold atomOk; rw [hv, if_pos rfl, hc])
      clear hax Ia hc
      go_enter Try.func38, Try.ntmps38
      go_wp2_with fail
      go_quiet (fail)
      go_wp2_with fail
      go_ret
      exact ⟨by rw [HF.out]; rfl, below_drewN (below_box _ _) _⟩
    | false =>
      have hl : ∀ n, (Instr.lookup 53 (.map (some ab)) (.int .i64 a.n) false).run Try.prog ((w.alloc (.cells #[.bool true, .int .i64 a.n] 76)).drewN n) = .ok (.int .i64 0) ((w.alloc (.cells #[.bool true, .int .i64 a.n] 76)).drewN n) := fun n => by
        rw [run_lookup_I Try.underlying53 Try.underlying3 zero_int ((Ia.below (below_box _ _)).same (by rfl)) a.n false, hax, hc]; rfl
      have HF : Hid (atomOk A a = false) := Lib.hid (by unfold atomOk; rw [hv, if_pos rfl, hc])
      clear hax Ia hc
      go_enter Try.func38, Try.ntmps38
      go_wp2_with fail
      go_quiet (fail)
      go_wp2_with fail
      go_ret
      exact ⟨by rw [HF.out]; rfl, below_drewN (below_box _ _) _⟩
  | false =>
    have HF : Hid (atomOk A a = inB a.n) := Lib.hid (by simp [atomOk, hv])
    clear hax Ia
    go_enter Try.func38, Try.ntmps38
    go_wp2_with fail
    go_quiet ((go_at_call 39; exact Calls.quiet_of_same ((iIn _ _).mono fun _ _ ⟨x, y⟩ => ⟨x, y.symm⟩)))
    go_wp2_with fail
    go_ret
    exact ⟨by rw [HF.out]; rfl, below_drewN (below_box _ _) _⟩
end Go.Proofs.Ytimljadlfhccpaa
namespace Go.Proofs.Ytimljadlfhccpaa
open Go.RowKit
set_option maxHeartbeats 1000000

theorem RAtoms.at {m : Mp} {base : Option Addr} {n cap : Nat} {l : List Atm} (h : RAtoms m (.slice base n cap) l) {w : World} (hm : Ag m w) (i : Nat) (hi : i < l.length) :
    ∃ b o, base = some ⟨b, o, none⟩ ∧ w.cell? ⟨b, o + i * 2, none⟩ = some (.bool l[i].var) ∧ w.cell? ⟨b, o + i * 2 + 1, none⟩ = some (.int .i64 l[i].n) ∧ I64 l[i].n := by
  obtain ⟨⟨base', cap', e, h1, h2, h3⟩, hw⟩ := h
  injection e with e1 e2 e3
  subst e1
  obtain ⟨b, o, hb, hc⟩ := h3 (by omega)
  have := (hc i hi).2
  refine ⟨b, o, hb, ?_, ?_, hw _ (List.getElem_mem hi)⟩
  · have h0 := hm _ _ (this 0 _ rfl); simpa [hi] using h0
  · have h0 := hm _ _ (this 1 _ rfl); simpa [hi] using h0
/-- The first atom that may not stand, or -1. -/
def firstBad (A : List Int) : List Atm → Int
  | [] => -1
  | a :: r => if atomOk A a then (let k := firstBad A r; if k < 0 then -1 else k + 1) else 0
theorem firstBad_ge (A) : ∀ l, -1 ≤ firstBad A l
  | [] => by simp [firstBad]
  | a :: r => by have := firstBad_ge A r; simp only [firstBad]; split <;> (try split) <;> omega
theorem firstBad_lt (A) : ∀ l, firstBad A l < l.length
  | [] => by simp [firstBad]
  | a :: r => by have := firstBad_lt A r; simp only [firstBad, List.length_cons]; split <;> (try split) <;> omega
theorem firstBad_iff (A) : ∀ l, decide (0 ≤ firstBad A l) = !l.all (atomOk A)
  | [] => by simp [firstBad]
  | a :: r => by
    have h := firstBad_iff A r
    have h2 := firstBad_ge A r
    simp only [firstBad, List.all_cons]
    cases ha : atomOk A a with
    | false => simp
    | true =>
      simp only [if_true, Bool.true_and, ← h]
      split <;> simp <;> omega
theorem firstBad_take (A) : ∀ (l : List Atm) (j : Nat) (hj : j < l.length), (l.take j).all (atomOk A) = true → atomOk A l[j] = false → firstBad A l = j
  | a :: r, 0, hj, _, hb => by simp only [List.getElem_cons_zero] at hb; simp [firstBad, hb]
  | a :: r, j + 1, hj, ht, hb => by
    simp only [List.take_succ_cons, List.all_cons, Bool.and_eq_true] at ht
    have := firstBad_take A r j (by simpa using hj) ht.2 (by simpa using hb)
    simp only [firstBad, ht.1, if_true, this]
    rw [if_neg (by omega)]; rfl
theorem firstBad_none (A) (l : List Atm) (h : l.all (atomOk A) = true) : firstBad A l = -1 := by
  have h1 := firstBad_iff A l
  rw [h] at h1
  have h2 := firstBad_ge A l
  simp at h1
  omega
theorem idxAtom {m : Mp} {lb : Option Addr} {lcap : Nat} {l : List Atm} (hl : RAtoms m (.slice lb l.length lcap) l) {B kb mb ab : Nat} {Fb : Option Addr} {nf Fc : Nat} {main : Int} {w : World} {met A : List Int}
    (hm : Ag m w) (hk : Lk kb mb ab Fb nf Fc main w met A) (hB : w.cell? ⟨B, 0, none⟩ = some (.pointer (some ⟨kb, 0, none⟩))) :
    Calls Try.prog 65 #[.slice lb l.length lcap, .func (.func 38) #[] #[.pointer (some ⟨B, 0, none⟩)]] w fun e w' => e = .returned (.int .i64 (firstBad A l)) ∧ Below w.heap.size w w' := by
  have HM := Lib.hid hm
  have HK := Lib.hid hk
  have HL := Lib.hid hl
  have HB := Lib.hid hB
  have l2 := hl.len
  clear hm hk hl hB
  go_enter Try.func65, Try.ntmps65
  go_wp2_with fail
  go_loopg [8] (l.length) (fun g i wr => ∃ j : Nat, j + g = l.length ∧ i = .int .i64 j ∧ Hid ((l.take j).all (atomOk A) = true) ∧ Hid (Below w.heap.size w wr))
  case atStart => exact ⟨0, by omega, rfl, Lib.hid rfl, Below.refl _ _⟩
  case round =>
    obtain ⟨j, hj, rfl, hs, hbel⟩ := hrel
    by_cases hlt : j < l.length
    · obtain ⟨b, o, rfl, e0, e1, i1⟩ := RAtoms.at HL.out (HM.out.later hbel.out) j hlt
      have hBr : Hid (wr.cell? ⟨B, 0, none⟩ = some (.pointer (some ⟨kb, 0, none⟩))) := Lib.hid ((hbel.out.cell (World.block_lt_of_cell? w _ HB.out)).trans HB.out)
      have Hc := Lib.hid (atomClo (a := l[j]) (HK.out.later hbel.out) hBr.out)
      clear i1
      cases hok : atomOk A l[j] with
      | false =>
        have HF := Lib.hid (firstBad_take A l j hlt hs.out hok)
        rw [hok] at Hc
        clear hok
        go_wp2_with (go_at_call 38; refine Hc.out.mono ?_; rintro e w1 ⟨rfl, hb1⟩)
        go_ret
        exact ⟨by rw [HF.out]; rfl, bgo hbel.out hb1⟩
      | true =>
        have hs' : Hid ((l.take (j + 1)).all (atomOk A) = true) := Lib.hid (by rw [List.take_succ_eq_append_getElem hlt, List.all_append, hs.out]; simp [hok])
        rw [hok] at Hc
        clear hok
        go_wp2_with (go_at_call 38; refine Hc.out.mono ?_; rintro e w1 ⟨rfl, hb1⟩)
        go_roundg (l.length - (j + 1))
        case measure => omega
        case rel => exact ⟨j + 1, by omega, by go_num, hs', bgo hbel.out hb1⟩
    · have hs' := hs.out
      rw [List.take_of_length_le (by omega)] at hs'
      have HF := Lib.hid (firstBad_none A l hs')
      clear hs'
      go_wp2_with fail
      go_ret
      exact ⟨by rw [HF.out]; rfl, hbel.out⟩
theorem hasAtom {m : Mp} {lb : Option Addr} {lcap : Nat} {l : List Atm} (hl : RAtoms m (.slice lb l.length lcap) l) {B kb mb ab : Nat} {Fb : Option Addr} {nf Fc : Nat} {main : Int} {w : World} {met A : List Int}
    (hm : Ag m w) (hk : Lk kb mb ab Fb nf Fc main w met A) (hB : w.cell? ⟨B, 0, none⟩ = some (.pointer (some ⟨kb, 0, none⟩))) :
    Calls Try.prog 37 #[.slice lb l.length lcap, .func (.func 38) #[] #[.pointer (some ⟨B, 0, none⟩)]] w fun e w' => e = .returned (.bool (!l.all (atomOk A))) ∧ Below w.heap.size w w' := by
  have Hc := Lib.hid (idxAtom hl hm hk hB)
  clear hl hm hk hB
  go_enter Try.func37, Try.ntmps37
  go_wp2_with (go_at_call 65; refine Hc.out.mono ?_; rintro e w1 ⟨rfl, hb1⟩)
  go_ret
  exact ⟨by rw [← firstBad_iff]; rfl, hb1⟩
end Go.Proofs.Ytimljadlfhccpaa
namespace Go.Proofs.Ytimljadlfhccpaa
open Go.RowKit
set_option maxHeartbeats 1000000

/-- What a look at terms leaves. -/
def GPost (kb mb ab : Nat) (Fb : Option Addr) (nf Fc : Nat) (main : Int) (A : List Int) (w : World) (r : Option (List Int)) (v : Value) (e : Ending) (w' : World) : Prop :=
  e = .returned v ∧ Kept [mb, ab] w w' ∧ ∀ met', r = some met' → Lk kb mb ab Fb nf Fc main w' met' A
def IdxPost (kb mb ab : Nat) (Fb : Option Addr) (nf Fc : Nat) (main : Int) (A : List Int) (w : World) (r : Option (List Int)) (e : Ending) (w' : World) : Prop :=
  ∃ k : Int, decide (0 ≤ k) = !r.isSome ∧ e = .returned (.int .i64 k) ∧ Kept [mb, ab] w w' ∧ ∀ met', r = some met' → Lk kb mb ab Fb nf Fc main w' met' A
/-- What is said of the look at one term. -/
def GSpec (nf : Nat) (main : Int) (t : Term) : Prop := ∀ (m : Mp) (c : List Value), RTerm m c t → ∀ (kb mb ab : Nat) (Fb : Option Addr) (Fc : Nat) (w : World) (met A : List Int), Ag m w → Lk kb mb ab Fb nf Fc main w met A →
  Calls Try.prog 22 #[.pointer (some ⟨kb, 0, none⟩), .agg c.toArray] w (GPost kb mb ab Fb nf Fc main A w (goodT nf main t met A) (.bool (goodT nf main t met A).isSome))
section
variable {nf : Nat} {main : Int}
theorem termClo {t : Term} (hs : GSpec nf main t) {m : Mp} {c : List Value} (hr : RTerm m c t) {B kb mb ab : Nat} {Fb : Option Addr} {Fc : Nat} {w : World} {met A : List Int} (hm : Ag m w) (hk : Lk kb mb ab Fb nf Fc main w met A)
    (hB : w.cell? ⟨B, 0, none⟩ = some (.pointer (some ⟨kb, 0, none⟩))) :
    Calls Try.prog 41 #[.agg c.toArray, .pointer (some ⟨B, 0, none⟩)] w (GPost kb mb ab Fb nf Fc main A w (goodT nf main t met A) (.bool (!(goodT nf main t met A).isSome))) := by
  obtain ⟨tb, tc, ab', ac, fb, fc, nb, nc, rfl⟩ := hr.shape
  have hBs : B < w.heap.size := World.block_lt_of_cell? w _ hB
  have Hc := Lib.hid (fun o => hs m _ hr kb mb ab Fb Fc _ met A (hm.later (below_box w o)) (hk.later (below_box w o)))
  clear hs hr hm hk
  generalize goodT nf main t met A = r at *
  cases r
  all_goals
    go_enter Try.func41, Try.ntmps41
    go_wp2_with (go_at_call 22; refine (Hc.out _).mono ?_; rintro e w1 ⟨rfl, hkp, hlk⟩; have HKP := Lib.hid hkp; have HLK := Lib.hid hlk; clear hlk hkp)
    go_ret
    exact ⟨rfl, (Kept.below (below_box _ _)).trans HKP.out, HLK.out⟩
theorem RTerm.nx {m : Mp} {lb : Option Addr} {l : List Term} (h : ∀ j (hj : j < l.length), TermAt m lb j l[j]) {w : World} (hm : Ag m w) (j : Nat) (hj : j < l.length) : TermAt m lb j l[j] := h j hj
theorem goodTs_step {l : List Term} {j : Nat} (hj : j < l.length) (met A : List Int) : goodTs nf main (l.drop j) met A = match goodT nf main l[j] met A with | none => none | some met' => goodTs nf main (l.drop (j + 1)) met' A := by
  rw [List.drop_eq_getElem_cons hj, goodTs]
  generalize goodT nf main l[j] met A = x
  cases x <;> rfl
set_option maxRecDepth 100000 in
theorem idxTerm {l : List Term} (hs : ∀ s ∈ l, GSpec nf main s) {m : Mp} {lb : Option Addr} {lcap : Nat} (hl : ∀ j (hj : j < l.length), TermAt m lb j l[j]) (l2 : l.length ≤ 140737488355328) {B kb mb ab : Nat} {Fb : Option Addr} {Fc : Nat} {w : World} {met A : List Int}
    (hm : Ag m w) (hk : Lk kb mb ab Fb nf Fc main w met A) (hB : w.cell? ⟨B, 0, none⟩ = some (.pointer (some ⟨kb, 0, none⟩))) (hBn : B ∉ [mb, ab]) :
    Calls Try.prog 66 #[.slice lb l.length lcap, .func (.func 41) #[] #[.pointer (some ⟨B, 0, none⟩)]] w (IdxPost kb mb ab Fb nf Fc main A w (goodTs nf main l met A)) := by
  have HM := Lib.hid hm
  have HK := Lib.hid hk
  have HL := Lib.hid hl
  have HB := Lib.hid hB
  have HS := Lib.hid hs
  have HN := Lib.hid hBn
  clear hm hk hl hB hs hBn
  go_enter Try.func66, Try.ntmps66
  go_wp2_with fail
  go_loopg [8] (l.length) (fun g i wr => ∃ (j : Nat) (met' : List Int), j + g = l.length ∧ i = .int .i64 j ∧ Hid (goodTs nf main l met A = goodTs nf main (l.drop j) met' A) ∧ Hid (Kept [mb, ab] w wr) ∧ Hid (Lk kb mb ab Fb nf Fc main wr met' A))
  case atStart => exact ⟨0, met, by omega, rfl, Lib.hid rfl, Kept.refl _ _, HK⟩
  case round =>
    obtain ⟨j, met', hj, rfl, hs, hkp, hK⟩ := hrel
    by_cases hlt : j < l.length
    · have hm : Ag m wr := HM.out.kept hkp.out HK.out.cells
      obtain ⟨b, o, tb', tc', ab', ac', fb', fc', nb', nc', rfl, hr, hcell⟩ := HL.out j hlt
      obtain ⟨e0, e1, e2, e3, e4, e5, e6, e7⟩ := hcell _ hm
      have hBr := hkp.out.cell HB.out HN.out
      have Hc := Lib.hid (termClo (HS.out _ (List.getElem_mem hlt)) hr hm hK.out hBr)
      have st := Lib.hid (goodTs_step (nf := nf) (main := main) hlt met' A)
      clear hm hcell hBr hr
      cases hg : goodT nf main l[j] met' A with
      | none =>
        have HF : Hid (goodTs nf main l met A = none) := Lib.hid (by rw [hs.out, st.out, hg])
        rw [hg] at Hc
        clear hg
        go_wp2_with (go_at_call 41; refine Hc.out.mono ?_; rintro e w1 ⟨rfl, hkp1, _⟩; have HKP1 := Lib.hid hkp1; clear hkp1)
        go_ret
        exact ⟨j, by rw [HF.out]; simp, rfl, hkp.out.trans HKP1.out, fun p hp => by rw [HF.out] at hp; cases hp⟩
      | some met2 =>
        have HF : Hid (goodTs nf main l met A = goodTs nf main (l.drop (j + 1)) met2 A) := Lib.hid (by rw [hs.out, st.out, hg])
        rw [hg] at Hc
        clear hg
        go_wp2_with (go_at_call 41; refine Hc.out.mono ?_; rintro e w1 ⟨rfl, hkp1, hlk⟩; have HKP1 := Lib.hid hkp1; have HLK := Lib.hid hlk; clear hkp1 hlk)
        go_roundg (l.length - (j + 1))
        case measure => omega
        case rel => exact ⟨j + 1, met2, by omega, by go_num, HF, hkp.out.trans HKP1.out, HLK.out _ rfl⟩
    · have HF : Hid (goodTs nf main l met A = some met') := Lib.hid (by rw [hs.out, List.drop_eq_nil_of_le (by omega), goodTs])
      go_wp2_with fail
      go_ret
      exact ⟨-1, by rw [HF.out]; rfl, rfl, hkp.out, fun p hp => by rw [HF.out] at hp; injection hp with hp; subst hp; exact hK.out⟩
theorem hasTerm {l : List Term} (hs : ∀ s ∈ l, GSpec nf main s) {m : Mp} {lb : Option Addr} {lcap : Nat} (hl : ∀ j (hj : j < l.length), TermAt m lb j l[j]) (l2 : l.length ≤ 140737488355328) {B kb mb ab : Nat} {Fb : Option Addr} {Fc : Nat} {w : World} {met A : List Int}
    (hm : Ag m w) (hk : Lk kb mb ab Fb nf Fc main w met A) (hB : w.cell? ⟨B, 0, none⟩ = some (.pointer (some ⟨kb, 0, none⟩))) (hBn : B ∉ [mb, ab]) :
    Calls Try.prog 40 #[.slice lb l.length lcap, .func (.func 41) #[] #[.pointer (some ⟨B, 0, none⟩)]] w (GPost kb mb ab Fb nf Fc main A w (goodTs nf main l met A) (.bool (!(goodTs nf main l met A).isSome))) := by
  have Hc := Lib.hid (idxTerm hs hl l2 (lcap := lcap) hm hk hB hBn)
  clear hl hm hk hB hs
  go_enter Try.func40, Try.ntmps40
  go_wp2_with (go_at_call 66; refine Hc.out.mono ?_; rintro e w1 ⟨k, hd, rfl, hkp, hlk⟩; have HD := Lib.hid hd; have HK := Lib.hid hkp; have HL := Lib.hid hlk; clear hd hkp hlk)
  go_ret
  exact ⟨by rw [← HD.out]; rfl, HK.out, HL.out⟩
end
end Go.Proofs.Ytimljadlfhccpaa
