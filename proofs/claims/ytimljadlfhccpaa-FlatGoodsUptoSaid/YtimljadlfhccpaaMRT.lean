/- The document's test and the program's are one, where a term is not too large. The document's walker looks at a term. -/
import Derived.Test.YtimljadlfhccpaaMRA
import Derived.Test.YtimljadlfhccpaaProg
import Derived.Test.YtimljadlfhccpaaMF
set_option linter.all false
set_option linter.all false
set_option linter.all false
namespace Go.Proofs.Ytimljadlfhccpaa
open Go.RowKit

theorem size_gt (t : Term) (n : Int) : n + 1 ≤ size t n := by
  rw [size_eq]
  have h1 := sizeFs_ge t.funs (n + 1)
  have h2 := sizeTs_ge t.next (sizeFs t.funs (n + 1))
  omega
def SmallT (t : Term) : Prop := ∃ n, 0 ≤ n ∧ size t n ≤ 65536
theorem smallTs : ∀ (l : List Term) (n : Int), 0 ≤ n → sizeTs l n ≤ 65536 → n + l.length ≤ 65536 ∧ ∀ s ∈ l, SmallT s
  | [], n, h0, h => by rw [sizeTs] at h; exact ⟨by simpa using h, by simp⟩
  | t :: r, n, h0, h => by
    rw [sizeTs] at h
    split at h
    · have h1 := size_gt t n
      have h2 := sizeTs_ge r (size t n)
      obtain ⟨h3, h4⟩ := smallTs r (size t n) (by omega) h
      refine ⟨by simp only [List.length_cons]; omega, fun s hs => ?_⟩
      rcases List.mem_cons.1 hs with rfl | hs
      · exact ⟨n, h0, by omega⟩
      · exact h4 s hs
    · omega
theorem SmallT.next {t : Term} (h : SmallT t) : t.next.length ≤ 65536 ∧ ∀ s ∈ t.next, SmallT s := by
  obtain ⟨n, h0, h⟩ := h
  rw [size_eq] at h
  have h1 := sizeFs_ge t.funs (n + 1)
  obtain ⟨h2, h3⟩ := smallTs t.next _ (by omega) h
  exact ⟨by omega, h3⟩
theorem smallFs : ∀ (l : List (Int × List Int × Term)) (n : Int), 0 ≤ n → sumS l n ≤ 65536 → ∀ f ∈ l, SmallT f.2.2
  | [], n, h0, h => by simp
  | g :: r, n, h0, h => by
    rw [sumS] at h
    split at h
    · have h1 := size_gt g.2.2 0
      intro f hf
      have hge : ∀ (l : List (Int × List Int × Term)) (q : Int), q ≤ sumS l q := by
        intro l
        induction l with
        | nil => intro q; rw [sumS]; omega
        | cons a l ih => intro q; rw [sumS]; split; (have := ih (q + size a.2.2 0); have := size_gt a.2.2 0; omega); omega
      rcases List.mem_cons.1 hf with rfl | hf
      · exact ⟨0, by omega, by have := hge r (n + size f.2.2 0); omega⟩
      · exact smallFs r _ (by omega) h f hf
    · omega
theorem tagged_eq {t : Term} (h : t.next.length ≤ 65536) : taggedB t = ((decide (t.next.length = t.tags.length) || decide (t.next.length = t.tags.length + 1)) && decide (1 ≤ t.next.length) && tagsB t.tags t.ints) := by
  unfold taggedB tagsB okTag
  by_cases h1 : t.next.length = t.tags.length ∨ t.next.length = t.tags.length + 1
  · have h2 : t.tags.length ≤ 65536 := by omega
    rw [decide_eq_true h2]
    simp [Bool.and_assoc]
  · have h1' : (decide (t.next.length = t.tags.length) || decide (t.next.length = t.tags.length + 1)) = false := by simpa using h1
    rw [h1']; simp
/-- The document's test of what a term's kind has. -/
def refFormed (nf : Nat) (main : Int) (t : Term) : Bool := shapeB t && !(t.kind == 4) && !((t.kind == 9) && (decide ((nf : Int) ≤ t.n) || t.n == main))
theorem shapeB_no {t : Term} (h : ¬ t.kind = 1 ∧ ¬ t.kind = 2 ∧ ¬ t.kind = 3 ∧ ¬ t.kind = 4 ∧ ¬ t.kind = 5 ∧ ¬ t.kind = 6 ∧ ¬ t.kind = 7 ∧ ¬ t.kind = 8 ∧ ¬ t.kind = 9 ∧ ¬ t.kind = 10) : shapeB t = false := by
  obtain ⟨h1, h2, h3, h4, h5, h6, h7, h8, h9, h10⟩ := h
  simp [shapeB, h1, h2, h3, h4, h5, h6, h7, h8, h9, h10]
theorem refFormed_eq {nf : Nat} {main : Int} {t : Term} (h : t.next.length ≤ 65536) : refFormed nf main t = formedB nf main t := by
  unfold refFormed
  by_cases k1 : t.kind = 1
  · rw [shapeB_1 k1, formedB_1 k1, k1, Bool.eq_iff_iff]; simp [and_assoc]
  by_cases k2 : t.kind = 2
  · rw [shapeB_2 k2, formedB_2 k2, k2, Bool.eq_iff_iff]; simp [and_assoc]
  by_cases k3 : t.kind = 3
  · rw [shapeB_3 k3, formedB_3 k3, k3, Bool.eq_iff_iff]; simp [and_assoc]
  by_cases k4 : t.kind = 4
  · rw [formedB_4 k4, k4]; simp
  by_cases k5 : t.kind = 5
  · rw [shapeB_5 k5, formedB_5 k5, k5, Bool.eq_iff_iff]; simp [and_assoc]; constructor <;> (intro hh; simp_all)
  by_cases k6 : t.kind = 6
  · rw [shapeB_6 k6, formedB_6 k6, tagged_eq h, k6, Bool.eq_iff_iff]; simp [and_assoc]; constructor <;> (intro hh; simp_all)
  by_cases k7 : t.kind = 7
  · rw [shapeB_7 k7, formedB_7 k7, k7, Bool.eq_iff_iff]; simp [and_assoc]; constructor <;> (intro hh; simp_all)
  by_cases k8 : t.kind = 8
  · rw [shapeB_8 k8, formedB_8 k8, k8, Bool.eq_iff_iff]; simp [and_assoc]; constructor <;> (intro hh; simp_all)
  by_cases k9 : t.kind = 9
  · rw [shapeB_9 k9, formedB_9 k9, k9, Bool.eq_iff_iff]; simp [and_assoc]
  by_cases k10 : t.kind = 10
  · rw [shapeB_10 k10, formedB_10 k10, k10, Bool.eq_iff_iff]; simp [and_assoc]
  rw [shapeB_no ⟨k1, k2, k3, k4, k5, k6, k7, k8, k9, k10⟩, formedB_no ⟨k1, k2, k3, k5, k6, k7, k8, k9, k10⟩]; rfl
end Go.Proofs.Ytimljadlfhccpaa
namespace Go.Proofs.Ytimljadlfhccpaa
open Go.RowKit
set_option maxHeartbeats 600000

def ShapeSpec : Prop := ∀ {m : Mp} {t : Term} {tb tcap ab acap fb fcap nb ncap} (_ : Opn m t tb tcap ab acap fb fcap nb ncap) (w : World) (_ : Ag m w),
    Calls Try.prog 42 #[.agg #[.int .i64 t.kind, .int .i64 t.x, .int .i64 t.n, .bool t.ints, .slice tb t.tags.length tcap, .slice ab t.args.length acap, .slice fb t.funs.length fcap, .slice nb t.next.length ncap]] w fun e w' => e = .returned (.bool (shapeB t)) ∧ Below w.heap.size w w'
/-- What the walk over a term leaves. -/
structure RPost (wb eb hb : Nat) (Fb : Option Addr) (nf Fc : Nat) (main : Int) (H : List Int) (w : World) (r : Option (List Int)) (e : Ending) (w' : World) : Prop where
  ret : e = .returned (.tuple #[])
  kept : Kept [wb, eb, hb] w w'
  some : ∀ E', r = some E' → Wk wb eb hb Fb nf Fc main w' E' H true
  none : r = none → ∃ E' H', Wk wb eb hb Fb nf Fc main w' E' H' false
def Off (m : Mp) (wb : Nat) : Prop := ∀ a v, m a = some v → a.block ≠ wb
def RSpec (nf : Nat) (main : Int) (t : Term) : Prop := ∀ (m : Mp) (c : List Value), RTerm m c t → ∀ (wb eb hb : Nat) (Fb : Option Addr) (Fc : Nat) (w : World) (E H : List Int), Ag m w → Off m wb → Wk wb eb hb Fb nf Fc main w E H true →
  Calls Try.prog 24 #[.pointer (some ⟨wb, 0, none⟩), .agg c.toArray] w (RPost wb eb hb Fb nf Fc main H w (goodT nf main t E H))
theorem Ag.keptW {m : Mp} {wb eb hb : Nat} {Fb : Option Addr} {nf Fc : Nat} {main : Int} {w w' : World} {E H : List Int} {ok : Bool} (hm : Ag m w) (ho : Off m wb) (hk : Wk wb eb hb Fb nf Fc main w E H ok) (h : Kept [wb, eb, hb] w w') : Ag m w' := by
  intro a v ha
  have h1 := hm a v ha
  refine h.cell h1 (fun hs => ?_)
  have h2 := ho a v ha
  simp at hs
  obtain ⟨es, i1, _⟩ := hk.mets
  obtain ⟨es', i1', _⟩ := hk.ards
  unfold World.cell? at h1
  split at h1
  · rename_i hh
    rcases hs with e | e | e
    · exact h2 e
    · exact i1.noCells _ _ _ (e ▸ hh)
    · exact i1'.noCells _ _ _ (e ▸ hh)
  · cases h1
set_option maxRecDepth 100000 in
theorem rterm_bad {nf : Nat} {main : Int} (hsp : ShapeSpec) {t : Term} (hsm : SmallT t) (hnf : nf ≤ 4096) (hbad : formedB nf main t = false) {m : Mp} {c : List Value} (hr : RTerm m c t) {wb eb hb : Nat} {Fb : Option Addr} {Fc : Nat} {w : World} {E H : List Int} (hm : Ag m w) (hk : Wk wb eb hb Fb nf Fc main w E H true) :
    Calls Try.prog 24 #[.pointer (some ⟨wb, 0, none⟩), .agg c.toArray] w (RPost wb eb hb Fb nf Fc main H w none) := by
  obtain ⟨tb, tcap, ab', acap, fb, fcap, nb, ncap, rfl, O⟩ := hr.opn
  rw [← refFormed_eq hsm.next.1] at hbad
  have HK := Lib.hid hk
  have hwb := hk.lt
  have n2 := O.nbd
  obtain ⟨c0, c1, c2, c3, c4, fz, ne, ne1, ne2, sub, _, _⟩ := hk
  have Hsh := Lib.hid (fun (w' : World) (hb' : Below w.heap.size w w') => hsp O w' (hm.later hb'))
  clear hr hm O sub hsp hsm
  cases hs : shapeB t with
  | false =>
    rw [hs] at Hsh
    clear hbad hs
    go_enter Try.func24, Try.ntmps24
    go_wp2_with fail
    have hL := later_cell (w.alloc (.cells #[.int .i64 t.kind, .int .i64 t.x, .int .i64 t.n, .bool t.ints, .slice tb t.tags.length tcap, .slice ab' t.args.length acap, .slice fb t.funs.length fcap, .slice nb t.next.length ncap] 34))
    have HshL := Lib.hid (fun (s : Later (w.alloc (.cells #[.int .i64 t.kind, .int .i64 t.x, .int .i64 t.n, .bool t.ints, .slice tb t.tags.length tcap, .slice ab' t.args.length acap, .slice fb t.funs.length fcap, .slice nb t.next.length ncap] 34))) => Calls.later_of (Hsh.out s.val (bgo (below_box _ _) s.property)))
    refine wp_region_later (by kernel_rfl) (by kernel_rfl) ?_
    repeat (go_big_quiet_step ((go_at_call 42; exact HshL.out _)))
    refine wpQuiet_nil ?_
    intro _ hw'
    obtain ⟨⟨w1, hb1⟩, hw''⟩ := hw'
    subst hw''
    have HB := Lib.hid (bgo (below_box w _) hb1)
    have HW := wk_set (HK.out.later HB.out) false
    have d4 := (HK.out.later HB.out).c4
    have dz := (HK.out.later HB.out).fz
    clear hb1
    go_wp2_with fail
    go_end0
    exact ⟨rfl, (Kept.below HB.out).trans HW.2, fun _ h => (by cases h), fun _ => ⟨_, _, HW.1⟩⟩
  | true =>
    rw [hs] at Hsh
    by_cases k4 : t.kind = 4
    · have q4 : (t.kind == 4) = true := by rw [beq_iff_eq]; exact k4
      clear hbad hs k4
      go_enter Try.func24, Try.ntmps24
      go_wp2_with fail
      have hL := later_cell (w.alloc (.cells #[.int .i64 t.kind, .int .i64 t.x, .int .i64 t.n, .bool t.ints, .slice tb t.tags.length tcap, .slice ab' t.args.length acap, .slice fb t.funs.length fcap, .slice nb t.next.length ncap] 34))
      have HshL := Lib.hid (fun (s : Later (w.alloc (.cells #[.int .i64 t.kind, .int .i64 t.x, .int .i64 t.n, .bool t.ints, .slice tb t.tags.length tcap, .slice ab' t.args.length acap, .slice fb t.funs.length fcap, .slice nb t.next.length ncap] 34))) => Calls.later_of (Hsh.out s.val (bgo (below_box _ _) s.property)))
      refine wp_region_later (by kernel_rfl) (by kernel_rfl) ?_
      repeat (go_big_quiet_step ((go_at_call 42; exact HshL.out _)))
      refine wpQuiet_nil ?_
      intro _ hw'
      obtain ⟨⟨w1, hb1⟩, hw''⟩ := hw'
      subst hw''
      have HB := Lib.hid (bgo (below_box w _) hb1)
      have HW := wk_set (HK.out.later HB.out) false
      have d4 := (HK.out.later HB.out).c4
      have dz := (HK.out.later HB.out).fz
      clear hb1
      go_wp2_with fail
      go_end0
      exact ⟨rfl, (Kept.below HB.out).trans HW.2, fun _ h => (by cases h), fun _ => ⟨_, _, HW.1⟩⟩
    have q4 : (t.kind == 4) = false := by rw [beq_eq_false_iff_ne]; exact k4
    have hbad' : (t.kind == 9 && (decide ((nf : Int) ≤ t.n) || t.n == main)) = true := by
      unfold refFormed at hbad
      rw [hs, q4] at hbad
      cases hX : (t.kind == 9 && (decide ((nf : Int) ≤ t.n) || t.n == main)) with
      | true => rfl
      | false => rw [hX] at hbad; exact absurd hbad (by decide)
    rw [Bool.and_eq_true] at hbad'
    obtain ⟨q9, hnm⟩ := hbad'
    by_cases h1 : (nf : Int) ≤ t.n
    · clear hbad hs k4 hnm
      go_enter Try.func24, Try.ntmps24
      go_wp2_with fail
      have hL := later_cell (w.alloc (.cells #[.int .i64 t.kind, .int .i64 t.x, .int .i64 t.n, .bool t.ints, .slice tb t.tags.length tcap, .slice ab' t.args.length acap, .slice fb t.funs.length fcap, .slice nb t.next.length ncap] 34))
      have HshL := Lib.hid (fun (s : Later (w.alloc (.cells #[.int .i64 t.kind, .int .i64 t.x, .int .i64 t.n, .bool t.ints, .slice tb t.tags.length tcap, .slice ab' t.args.length acap, .slice fb t.funs.length fcap, .slice nb t.next.length ncap] 34))) => Calls.later_of (Hsh.out s.val (bgo (below_box _ _) s.property)))
      refine wp_region_later (by kernel_rfl) (by kernel_rfl) ?_
      repeat (go_big_quiet_step ((go_at_call 42; exact HshL.out _)))
      refine wpQuiet_nil ?_
      intro _ hw'
      obtain ⟨⟨w1, hb1⟩, hw''⟩ := hw'
      subst hw''
      have HB := Lib.hid (bgo (below_box w _) hb1)
      have HW := wk_set (HK.out.later HB.out) false
      have d4 := (HK.out.later HB.out).c4
      have dz := (HK.out.later HB.out).fz
      clear hb1
      go_wp2_with fail
      go_end0
      exact ⟨rfl, (Kept.below HB.out).trans HW.2, fun _ h => (by cases h), fun _ => ⟨_, _, HW.1⟩⟩
    · have q1 : decide ((nf : Int) ≤ t.n) = false := by simpa using h1
      have q2 : (t.n == main) = true := by rw [q1, Bool.false_or] at hnm; exact hnm
      clear hbad hs k4 hnm
      go_enter Try.func24, Try.ntmps24
      go_wp2_with fail
      have hL := later_cell (w.alloc (.cells #[.int .i64 t.kind, .int .i64 t.x, .int .i64 t.n, .bool t.ints, .slice tb t.tags.length tcap, .slice ab' t.args.length acap, .slice fb t.funs.length fcap, .slice nb t.next.length ncap] 34))
      have HshL := Lib.hid (fun (s : Later (w.alloc (.cells #[.int .i64 t.kind, .int .i64 t.x, .int .i64 t.n, .bool t.ints, .slice tb t.tags.length tcap, .slice ab' t.args.length acap, .slice fb t.funs.length fcap, .slice nb t.next.length ncap] 34))) => Calls.later_of (Hsh.out s.val (bgo (below_box _ _) s.property)))
      refine wp_region_later (by kernel_rfl) (by kernel_rfl) ?_
      repeat (go_big_quiet_step ((go_at_call 42; exact HshL.out _)))
      refine wpQuiet_nil ?_
      intro _ hw'
      obtain ⟨⟨w1, hb1⟩, hw''⟩ := hw'
      subst hw''
      have HB := Lib.hid (bgo (below_box w _) hb1)
      have HW := wk_set (HK.out.later HB.out) false
      have d4 := (HK.out.later HB.out).c4
      have dz := (HK.out.later HB.out).fz
      clear hb1
      go_wp2_with fail
      go_end0
      exact ⟨rfl, (Kept.below HB.out).trans HW.2, fun _ h => (by cases h), fun _ => ⟨_, _, HW.1⟩⟩
end Go.Proofs.Ytimljadlfhccpaa
