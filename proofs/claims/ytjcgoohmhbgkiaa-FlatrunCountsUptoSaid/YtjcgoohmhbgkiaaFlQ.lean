/- Where each variable of a function stands: places. -/
import Derived.Test.YtjcgoohmhbgkiaaProg
import Derived.Test.YtjcgoohmhbgkiaaMF
import Derived.Test.YtjcgoohmhbgkiaaMJ
set_option linter.all false
set_option linter.all false
namespace Go.Proofs.Ytjcgoohmhbgkiaa
open Go.RowKit
set_option maxHeartbeats 1000000

theorem bindersTs_drop {l : List Term} {j : Nat} (hj : j < l.length) : bindersTs (l.drop j) = bindersT l[j] ++ bindersTs (l.drop (j + 1)) := by
  rw [List.drop_eq_getElem_cons hj, bindersTs]
/-- What looking at a term leaves: its variables have got their places. -/
structure Looked (w : World) (mb : Nat) (l : List Int) (e : Ending) (w' : World) : Prop where
  ret : e = .returned (.tuple #[])
  kept : Kept [mb] w w'
  map : IMap w' mb (numbered l)
def LookSpec (t : Term) : Prop := ∀ (m : Mp) (c : List Value), RTerm m c t → ∀ (w : World) (ob lb mb : Nat) (l : List Int), Ag m w → w.cell? ⟨ob, 0, none⟩ = some (.map (some mb)) →
  w.cell? ⟨lb, 0, none⟩ = some (.func (.func 50) #[] #[.pointer (some ⟨ob, 0, none⟩), .pointer (some ⟨lb, 0, none⟩)]) → IMap w mb (numbered l) → (l ++ bindersT t).Nodup →
  Calls Try.prog 50 #[.agg c.toArray, .pointer (some ⟨ob, 0, none⟩), .pointer (some ⟨lb, 0, none⟩)] w (Looked w mb (l ++ bindersT t))
theorem kinds_B (k : Int) : ((k == 1) = true) ∨ ((k == 1) = false ∧ (k == 2) = true) ∨ ((k == 1) = false ∧ (k == 2) = false ∧ (k == 3) = true) ∨ ((k == 1) = false ∧ (k == 2) = false ∧ (k == 3) = false ∧ (k == 9) = true) ∨
    ((k == 1) = false ∧ (k == 2) = false ∧ (k == 3) = false ∧ (k == 9) = false ∧ (k == 10) = true) ∨ ((k == 1) = false ∧ (k == 2) = false ∧ (k == 3) = false ∧ (k == 9) = false ∧ (k == 10) = false) := by
  cases (k == 1) <;> cases (k == 2) <;> cases (k == 3) <;> cases (k == 9) <;> cases (k == 10) <;> simp
theorem bindsB_of (k : Int) : bindsB k = ((k == 1) || (k == 2) || (k == 3) || (k == 9) || (k == 10)) := rfl
set_option maxRecDepth 100000 in
theorem look_step (t : Term) (ih : ∀ u ∈ t.next, LookSpec u) : LookSpec t := by
  intro m c hr w ob lb mb l hm hob hlb hI hnd
  obtain ⟨tb, tc, ab, ac, fb, fc, nb, nc, rfl, O⟩ := hr.opn
  have nle := O.nle
  have nbd := O.nbd
  have HN := Lib.hid O.nextAt
  have HIH := Lib.hid ih
  have HM := Lib.hid hm
  have hbt := Lib.hid (bindersT_eq t)
  have HND := Lib.hid hnd
  have lob := World.block_lt_of_cell? w _ hob
  have llb := World.block_lt_of_cell? w _ hlb
  have lmb := hI.lt
  have nob : ¬ ob = mb := fun e => by
    subst e
    obtain ⟨ents, ck, hb, _⟩ := hI
    simp [World.cell?, hb] at hob
  have nlb : ¬ lb = mb := fun e => by
    subst e
    obtain ⟨ents, ck, hb, _⟩ := hI
    simp [World.cell?, hb] at hlb
  have hI1 := hI.below (below_box w (.cells #[.int .i64 t.kind, .int .i64 t.x, .int .i64 t.n, .bool t.ints, .slice tb t.tags.length tc, .slice ab t.args.length ac, .slice fb t.funs.length fc, .slice nb t.next.length nc] 49))
  have hln := fun ty => run_len_I (P := Try.prog) (ty := ty) Try.underlying83 hI1
  rw [numbered_length] at hln
  have A7 := Lib.hid ((BoxAt.new w [.int .i64 t.kind, .int .i64 t.x, .int .i64 t.n, .bool t.ints, .slice tb t.tags.length tc, .slice ab t.args.length ac, .slice fb t.funs.length fc, .slice nb t.next.length nc] 49).2 7 _ rfl)
  clear hr O ih hm hnd
  have hks := kinds_B t.kind
  have hbk := Lib.hid (bindsB_of t.kind)
  rcases hks with q1 | ⟨q1, q2⟩ | ⟨q1, q2, q3⟩ | ⟨q1, q2, q3, q9⟩ | ⟨q1, q2, q3, q9, q10⟩ | ⟨q1, q2, q3, q9, q10⟩
  case inr.inr.inr.inr.inr =>
    have HB : Hid (bindersT t = bindersTs t.next) := Lib.hid (by rw [hbt.out, hbk.out, q1, q2, q3, q9, q10]; rfl)
    have HI0 := Lib.hid hI
    have HBB : Hid (l ++ bindersT t = l ++ bindersTs t.next) := Lib.hid (by rw [HB.out])
    have HI1 : Hid (IMap (w.alloc (.cells #[.int .i64 t.kind, .int .i64 t.x, .int .i64 t.n, .bool t.ints, .slice tb t.tags.length tc, .slice ab t.args.length ac, .slice fb t.funs.length fc, .slice nb t.next.length nc] 49)) mb (numbered l)) := Lib.hid hI1
    have HK1 := Lib.hid (Kept.below (S := [mb]) (below_box w (.cells #[.int .i64 t.kind, .int .i64 t.x, .int .i64 t.n, .bool t.ints, .slice tb t.tags.length tc, .slice ab t.args.length ac, .slice fb t.funs.length fc, .slice nb t.next.length nc] 49)))
    clear hI hI1
    go_enter Try.func50, Try.ntmps50
    go_wp2_with fail
    go_loopg [22] (t.next.length) (fun g i wr => ∃ (j : Nat) (lj : List Int), j + g = t.next.length ∧ i = .int .i64 j ∧ Hid (l ++ bindersT t = lj ++ bindersTs (t.next.drop j)) ∧ Hid (IMap wr mb (numbered lj)) ∧ Hid (Kept [mb] w wr))
    case atStart => exact ⟨0, l, by omega, rfl, Lib.hid (by rw [List.drop_zero]; exact HBB.out), HI1, HK1⟩
    case round =>
      obtain ⟨j, lj, hj, rfl, hs, hIj, hkj⟩ := hrel
      by_cases hlt : j < t.next.length
      · obtain ⟨b, o, tb', tc', ab', ac', fb', fc', nb', nc', rfl, hrt, hcell⟩ := HN.out j hlt
        have hmr : Ag m wr := HM.out.kept hkj.out (by intro k hk; simp at hk; subst hk; exact HI0.out.noCells)
        obtain ⟨e0, e1, e2, e3, e4, e5, e6, e7⟩ := hcell _ hmr
        have gob := hkj.out.cell hob (by simpa using nob)
        have glb := hkj.out.cell hlb (by simpa using nlb)
        have lob' := Nat.lt_of_lt_of_le lob hkj.out.size
        have llb' := Nat.lt_of_lt_of_le llb hkj.out.size
        have hst : Hid (l ++ bindersT t = (lj ++ bindersT t.next[j]) ++ bindersTs (t.next.drop (j + 1))) := Lib.hid (by rw [hs.out, bindersTs_drop hlt, List.append_assoc])
        have HC := Lib.hid (fun (wx : World) (hb : Below wr.heap.size wr wx) => HIH.out t.next[j] (List.getElem_mem hlt) m _ hrt wx ob lb mb lj (hmr.later hb) ((hb.cell lob').trans gob) ((hb.cell llb').trans glb) (hIj.out.below hb) (List.Nodup.sublist (List.sublist_append_left _ _) (hst.out ▸ HND.out)))
        clear hmr hcell hrt
        go_wp2_with (go_at_call 50; refine (HC.out _ (below_box _ _)).mono ?_; rintro e w2 ⟨rfl, hk2, hI2⟩; have HK2 := Lib.hid hk2; have HI2 := Lib.hid hI2; clear hk2 hI2)
        go_roundg (t.next.length - (j + 1))
        case measure => omega
        case rel => exact ⟨j + 1, _, by omega, by go_num, hst, HI2, (hkj.out.trans (Kept.below (below_box _ _))).trans HK2.out⟩
      · have HE : Hid (l ++ bindersT t = lj) := Lib.hid (by rw [hs.out, List.drop_eq_nil_of_le (by omega), bindersTs, List.append_nil])
        go_wp2_with fail
        go_end0
        exact ⟨rfl, hkj.out, by rw [HE.out]; exact hIj.out⟩
  all_goals
    have hx : t.x ∉ l := fun h => by
      have h1 := HND.out
      rw [hbt.out, hbk.out] at h1
      simp only [*, Bool.or_true, Bool.true_or, if_true, List.singleton_append] at h1
      exact (List.nodup_append.1 h1).2.2 t.x h t.x List.mem_cons_self rfl
    have HB : Hid (l ++ bindersT t = (l ++ [t.x]) ++ bindersTs t.next) := Lib.hid (by rw [hbt.out, hbk.out]; simp only [*, Bool.or_true, Bool.true_or, if_true, List.append_assoc])
    have HX := Lib.hid hx
    have HI0 := Lib.hid hI
    clear hI hx
    go_enter Try.func50, Try.ntmps50
    go_wp2_with (at_mapUpdate; refine wpList_mapUpdate_I (b := mb) rfl _ _ _ _ _ _ rfl Try.underlying83 Try.underlying3 rfl _ rfl hI1 ?_; intro w1 hIq hg1 hz1; have c7 := hg1.cell A7.out (by simp; omega))
    have HI1 : Hid (IMap w1 mb (numbered (l ++ [t.x]))) := Lib.hid (by rw [← numbered_put HX.out]; exact hIq)
    have HK1 := Lib.hid ((Kept.below (S := [mb]) (below_box w (.cells #[.int .i64 t.kind, .int .i64 t.x, .int .i64 t.n, .bool t.ints, .slice tb t.tags.length tc, .slice ab t.args.length ac, .slice fb t.funs.length fc, .slice nb t.next.length nc] 49))).trans (Kept.grown hg1 (by simp)))
    clear hI1 hIq hg1 hz1 c7 hln
    go_loopg [22] (t.next.length) (fun g i wr => ∃ (j : Nat) (lj : List Int), j + g = t.next.length ∧ i = .int .i64 j ∧ Hid (l ++ bindersT t = lj ++ bindersTs (t.next.drop j)) ∧ Hid (IMap wr mb (numbered lj)) ∧ Hid (Kept [mb] w wr))
    case atStart => exact ⟨0, l ++ [t.x], by omega, rfl, Lib.hid (by rw [List.drop_zero]; exact HB.out), HI1, HK1⟩
    case round =>
      obtain ⟨j, lj, hj, rfl, hs, hIj, hkj⟩ := hrel
      by_cases hlt : j < t.next.length
      · obtain ⟨b, o, tb', tc', ab', ac', fb', fc', nb', nc', rfl, hrt, hcell⟩ := HN.out j hlt
        have hmr : Ag m wr := HM.out.kept hkj.out (by intro k hk; simp at hk; subst hk; exact HI0.out.noCells)
        obtain ⟨e0, e1, e2, e3, e4, e5, e6, e7⟩ := hcell _ hmr
        have gob := hkj.out.cell hob (by simpa using nob)
        have glb := hkj.out.cell hlb (by simpa using nlb)
        have lob' := Nat.lt_of_lt_of_le lob hkj.out.size
        have llb' := Nat.lt_of_lt_of_le llb hkj.out.size
        have hst : Hid (l ++ bindersT t = (lj ++ bindersT t.next[j]) ++ bindersTs (t.next.drop (j + 1))) := Lib.hid (by rw [hs.out, bindersTs_drop hlt, List.append_assoc])
        have HC := Lib.hid (fun (wx : World) (hb : Below wr.heap.size wr wx) => HIH.out t.next[j] (List.getElem_mem hlt) m _ hrt wx ob lb mb lj (hmr.later hb) ((hb.cell lob').trans gob) ((hb.cell llb').trans glb) (hIj.out.below hb) (List.Nodup.sublist (List.sublist_append_left _ _) (hst.out ▸ HND.out)))
        clear hmr hcell hrt
        go_wp2_with (go_at_call 50; refine (HC.out _ (below_box _ _)).mono ?_; rintro e w2 ⟨rfl, hk2, hI2⟩; have HK2 := Lib.hid hk2; have HI2 := Lib.hid hI2; clear hk2 hI2)
        go_roundg (t.next.length - (j + 1))
        case measure => omega
        case rel => exact ⟨j + 1, _, by omega, by go_num, hst, HI2, (hkj.out.trans (Kept.below (below_box _ _))).trans HK2.out⟩
      · have HE : Hid (l ++ bindersT t = lj) := Lib.hid (by rw [hs.out, List.drop_eq_nil_of_le (by omega), bindersTs, List.append_nil])
        go_wp2_with fail
        go_end0
        exact ⟨rfl, hkj.out, by rw [HE.out]; exact hIj.out⟩
theorem look_any (t : Term) : LookSpec t := by
  induction t using Term.ind with
  | h t _ ihn => exact look_step t ihn
end Go.Proofs.Ytjcgoohmhbgkiaa
