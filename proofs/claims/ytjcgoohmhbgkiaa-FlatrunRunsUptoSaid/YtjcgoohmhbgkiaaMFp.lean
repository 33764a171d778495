/- The machine: what a term does, whatever its kind. Where each variable of a function stands: places. Where each variable of a function stands: places, whole. The machine: the deferred function that takes up the stop. -/
import Derived.Test.YtjcgoohmhbgkiaaProg
import Derived.Test.YtjcgoohmhbgkiaaFlO
import Derived.Test.YtjcgoohmhbgkiaaMJ
import Derived.Test.YtjcgoohmhbgkiaaMF
import Derived.Laws.EntriesVeiled
import Derived.Defers
import Derived.Recover
set_option linter.all false
set_option linter.all false
set_option linter.all false
namespace Go.Proofs.Ytjcgoohmhbgkiaa
open Go.RowKit
set_option maxHeartbeats 400000

theorem does_any {c : Ctx} {w : World} {S : List Nat} {steps : Nat} {s : St} {vw vs : Value} {sh : List Int} {F V o i : Nat} {vl : List Int} {env : Env} {tb to : Nat} {t : Term} (D : DoesIn c w S steps s vw vs sh F V o i vl env tb to t) (hsh : sh = []) (hk : ¬ t.kind = 5) :
    Calls Try.prog 55 #[.pointer (some ⟨c.M, 0, none⟩), .pointer (some ⟨tb, to, none⟩), .pointer (some ⟨F, 0, none⟩)] w (DoesPost c S w steps vs sh F V o i vl t (stepT t env s)) := by
  rcases formed_kinds D.fm with h | h | h | h | h | h | h | h | h
  · exact does_prim D h
  · exact does_con D h
  · exact does_field D h
  · exact absurd h hk
  · exact does_switch D h
  · exact does_write D h
  · exact does_halt D hsh h
  · exact does_clo D h
  · exact does_env D h
end Go.Proofs.Ytjcgoohmhbgkiaa
set_option linter.all false
set_option linter.all false
namespace Go.Proofs.Ytjcgoohmhbgkiaa
open Go.RowKit
set_option maxHeartbeats 1000000

theorem bindersTs_drop {l : List Term} {j : Nat} (hj : j < l.length) : bindersTs (l.drop j) = bindersT l[j] ++ bindersTs (l.drop (j + 1)) := by
  rw [List.drop_eq_getElem_cons hj, bindersTs]
/-- What looking at a term leaves: its variables have got their places. -/
structure Looked (w : World) (mb : Nat) (l : List Int) (e : Ending) (w' : World) : Prop where
  ret : e = .returned (.tuple #[])
  kept : Kept [mb] w w'
  map : IMap w' mb (numbered l)
def LookSpec (t : Term) : Prop := ∀ (m : Mp) (c : List Value), RTerm m c t → ∀ (w : World) (ob lb mb : Nat) (l : List Int), Ag m w → w.cell? ⟨ob, 0, none⟩ = some (.map (some mb)) →
  w.cell? ⟨lb, 0, none⟩ = some (.func (.func 50) #[] #[.pointer (some ⟨ob, 0, none⟩), .pointer (some ⟨lb, 0, none⟩)]) → IMap w mb (numbered l) → (l ++ bindersT t).Nodup →
  Calls Try.prog 50 #[.agg c.toArray, .pointer (some ⟨ob, 0, none⟩), .pointer (some ⟨lb, 0, none⟩)] w (Looked w mb (l ++ bindersT t))
theorem kinds_B (k : Int) : ((k == 1) = true) ∨ ((k == 1) = false ∧ (k == 2) = true) ∨ ((k == 1) = false ∧ (k == 2) = false ∧ (k == 3) = true) ∨ ((k == 1) = false ∧ (k == 2) = false ∧ (k == 3) = false ∧ (k == 9) = true) ∨
    ((k == 1) = false ∧ (k == 2) = false ∧ (k == 3) = false ∧ (k == 9) = false ∧ (k == 10) = true) ∨ ((k == 1) = false ∧ (k == 2) = false ∧ (k == 3) = false ∧ (k == 9) = false ∧ (k == 10) = false) := by
  cases (k == 1) <;> cases (k == 2) <;> cases (k == 3) <;> cases (k == 9) <;> cases (k == 10) <;> simp
theorem bindsB_of (k : Int) : bindsB k = ((k == 1) || (k == 2) || (k == 3) || (k == 9) || (k == 10)) := rfl
set_option maxRecDepth 100000 in
theorem look_step (t : Term) (ih : ∀ u ∈ t.next, LookSpec u) : LookSpec t := by
  intro m c hr w ob lb mb l hm hob hlb hI hnd
  obtain ⟨tb, tc, ab, ac, fb, fc, nb, nc, rfl, O⟩ := hr.opn
  have nle := O.nle
  have nbd := O.nbd
  have HN := Lib.hid O.nextAt
  have HIH := Lib.hid ih
  have HM := Lib.hid hm
  have hbt := Lib.hid (bindersT_eq t)
  have HND := Lib.hid hnd
  have lob := World.block_lt_of_cell? w _ hob
  have llb := World.block_lt_of_cell? w _ hlb
  have lmb := hI.lt
  have nob : ¬ ob = mb := fun e => by
    subst e
    obtain ⟨ents, ck, hb, _⟩ := hI
    simp [World.cell?, hb] at hob
  have nlb : ¬ lb = mb := fun e => by
    subst e
    obtain ⟨ents, ck, hb, _⟩ := hI
    simp [World.cell?, hb] at hlb
  have hI1 := hI.below (below_box w (.cells #[.int .i64 t.kind, .int .i64 t.x, .int .i64 t.n, .bool t.ints, .slice tb t.tags.length tc, .slice ab t.args.length ac, .slice fb t.funs.length fc, .slice nb t.next.length nc] 49))
  have hln := fun ty => run_len_I (P := Try.prog) (ty := ty) Try.underlying83 hI1
  rw [numbered_length] at hln
  have A7 := Lib.hid ((BoxAt.new w [.int .i64 t.kind, .int .i64 t.x, .int .i64 t.n, .bool t.ints, .slice tb t.tags.length tc, .slice ab t.args.length ac, .slice fb t.funs.length fc, .slice nb t.next.length nc] 49).2 7 _ rfl)
  clear hr O ih hm hnd
  have hks := kinds_B t.kind
  have hbk := Lib.hid (bindsB_of t.kind)
  rcases hks with q1 | ⟨q1, q2⟩ | ⟨q1, q2, q3⟩ | ⟨q1, q2, q3, q9⟩ | ⟨q1, q2, q3, q9, q10⟩ | ⟨q1, q2, q3, q9, q10⟩
  case inr.inr.inr.inr.inr =>
    have HB : Hid (bindersT t = bindersTs t.next) := Lib.hid (by rw [hbt.out, hbk.out, q1, q2, q3, q9, q10]; rfl)
    have HI0 := Lib.hid hI
    have HBB : Hid (l ++ bindersT t = l ++ bindersTs t.next) := Lib.hid (by rw [HB.out])
    have HI1 : Hid (IMap (w.alloc (.cells #[.int .i64 t.kind, .int .i64 t.x, .int .i64 t.n, .bool t.ints, .slice tb t.tags.length tc, .slice ab t.args.length ac, .slice fb t.funs.length fc, .slice nb t.next.length nc] 49)) mb (numbered l)) := Lib.hid hI1
    have HK1 := Lib.hid (Kept.below (S := [mb]) (below_box w (.cells #[.int .i64 t.kind, .int .i64 t.x, .int .i64 t.n, .bool t.ints, .slice tb t.tags.length tc, .slice ab t.args.length ac, .slice fb t.funs.length fc, .slice nb t.next.length nc] 49)))
    clear hI hI1
    go_enter Try.func50, Try.ntmps50
    go_wp2_with fail
    go_loopg [22] (t.next.length) (fun g i wr => ∃ (j : Nat) (lj : List Int), j + g = t.next.length ∧ i = .int .i64 j ∧ Hid (l ++ bindersT t = lj ++ bindersTs (t.next.drop j)) ∧ Hid (IMap wr mb (numbered lj)) ∧ Hid (Kept [mb] w wr))
    case atStart => exact ⟨0, l, by omega, rfl, Lib.hid (by rw [List.drop_zero]; exact HBB.out), HI1, HK1⟩
    case round =>
      obtain ⟨j, lj, hj, rfl, hs, hIj, hkj⟩ := hrel
      by_cases hlt : j < t.next.length
      · obtain ⟨b, o, tb', tc', ab', ac', fb', fc', nb', nc', rfl, hrt, hcell⟩ := HN.out j hlt
        have hmr : Ag m wr := HM.out.kept hkj.out (by intro k hk; simp at hk; subst hk; exact HI0.out.noCells)
        obtain ⟨e0, e1, e2, e3, e4, e5, e6, e7⟩ := hcell _ hmr
        have gob := hkj.out.cell hob (by simpa using nob)
        have glb := hkj.out.cell hlb (by simpa using nlb)
        have lob' := Nat.lt_of_lt_of_le lob hkj.out.size
        have llb' := Nat.lt_of_lt_of_le llb hkj.out.size
        have hst : Hid (l ++ bindersT t = (lj ++ bindersT t.next[j]) ++ bindersTs (t.next.drop (j + 1))) := Lib.hid (by rw [hs.out, bindersTs_drop hlt, List.append_assoc])
        have HC := Lib.hid (fun (wx : World) (hb : Below wr.heap.size wr wx) => HIH.out t.next[j] (List.getElem_mem hlt) m _ hrt wx ob lb mb lj (hmr.later hb) ((hb.cell lob').trans gob) ((hb.cell llb').trans glb) (hIj.out.below hb) (List.Nodup.sublist (List.sublist_append_left _ _) (hst.out ▸ HND.out)))
        clear hmr hcell hrt
        go_wp2_with (go_at_call 50; refine (HC.out _ (below_box _ _)).mono ?_; rintro e w2 ⟨rfl, hk2, hI2⟩; have HK2 := Lib.hid hk2; have HI2 := Lib.hid hI2; clear hk2 hI2)
        go_roundg (t.next.length - (j + 1))
        case measure => omega
        case rel => exact ⟨j + 1, _, by omega, by go_num, hst, HI2, (hkj.out.trans (Kept.below (below_box _ _))).trans HK2.out⟩
      · have HE : Hid (l ++ bindersT t = lj) := Lib.hid (by rw [hs.out, List.drop_eq_nil_of_le (by omega), bindersTs, List.append_nil])
        go_wp2_with fail
        go_end0
        exact ⟨rfl, hkj.out, by rw [HE.out]; exact hIj.out⟩
  all_goals
    have hx : t.x ∉ l := fun h => by
      have h1 := HND.out
      rw [hbt.out, hbk.out] at h1
      simp only [*, Bool.or_true, Bool.true_or, if_true, List.singleton_append] at h1
      exact (List.nodup_append.1 h1).2.2 t.x h t.x List.mem_cons_self rfl
    have HB : Hid (l ++ bindersT t = (l ++ [t.x]) ++ bindersTs t.next) := Lib.hid (by rw [hbt.out, hbk.out]; simp only [*, Bool.or_true, Bool.true_or, if_true, List.append_assoc])
    have HX := Lib.hid hx
    have HI0 := Lib.hid hI
    clear hI hx
    go_enter Try.func50, Try.ntmps50
    go_wp2_with (at_mapUpdate; refine wpList_mapUpdate_I (b := mb) rfl _ _ _ _ _ _ rfl Try.underlying83 Try.underlying3 rfl _ rfl hI1 ?_; intro w1 hIq hg1 hz1; have c7 := hg1.cell A7.out (by simp; omega))
    have HI1 : Hid (IMap w1 mb (numbered (l ++ [t.x]))) := Lib.hid (by rw [← numbered_put HX.out]; exact hIq)
    have HK1 := Lib.hid ((Kept.below (S := [mb]) (below_box w (.cells #[.int .i64 t.kind, .int .i64 t.x, .int .i64 t.n, .bool t.ints, .slice tb t.tags.length tc, .slice ab t.args.length ac, .slice fb t.funs.length fc, .slice nb t.next.length nc] 49))).trans (Kept.grown hg1 (by simp)))
    clear hI1 hIq hg1 hz1 c7 hln
    go_loopg [22] (t.next.length) (fun g i wr => ∃ (j : Nat) (lj : List Int), j + g = t.next.length ∧ i = .int .i64 j ∧ Hid (l ++ bindersT t = lj ++ bindersTs (t.next.drop j)) ∧ Hid (IMap wr mb (numbered lj)) ∧ Hid (Kept [mb] w wr))
    case atStart => exact ⟨0, l ++ [t.x], by omega, rfl, Lib.hid (by rw [List.drop_zero]; exact HB.out), HI1, HK1⟩
    case round =>
      obtain ⟨j, lj, hj, rfl, hs, hIj, hkj⟩ := hrel
      by_cases hlt : j < t.next.length
      · obtain ⟨b, o, tb', tc', ab', ac', fb', fc', nb', nc', rfl, hrt, hcell⟩ := HN.out j hlt
        have hmr : Ag m wr := HM.out.kept hkj.out (by intro k hk; simp at hk; subst hk; exact HI0.out.noCells)
        obtain ⟨e0, e1, e2, e3, e4, e5, e6, e7⟩ := hcell _ hmr
        have gob := hkj.out.cell hob (by simpa using nob)
        have glb := hkj.out.cell hlb (by simpa using nlb)
        have lob' := Nat.lt_of_lt_of_le lob hkj.out.size
        have llb' := Nat.lt_of_lt_of_le llb hkj.out.size
        have hst : Hid (l ++ bindersT t = (lj ++ bindersT t.next[j]) ++ bindersTs (t.next.drop (j + 1))) := Lib.hid (by rw [hs.out, bindersTs_drop hlt, List.append_assoc])
        have HC := Lib.hid (fun (wx : World) (hb : Below wr.heap.size wr wx) => HIH.out t.next[j] (List.getElem_mem hlt) m _ hrt wx ob lb mb lj (hmr.later hb) ((hb.cell lob').trans gob) ((hb.cell llb').trans glb) (hIj.out.below hb) (List.Nodup.sublist (List.sublist_append_left _ _) (hst.out ▸ HND.out)))
        clear hmr hcell hrt
        go_wp2_with (go_at_call 50; refine (HC.out _ (below_box _ _)).mono ?_; rintro e w2 ⟨rfl, hk2, hI2⟩; have HK2 := Lib.hid hk2; have HI2 := Lib.hid hI2; clear hk2 hI2)
        go_roundg (t.next.length - (j + 1))
        case measure => omega
        case rel => exact ⟨j + 1, _, by omega, by go_num, hst, HI2, (hkj.out.trans (Kept.below (below_box _ _))).trans HK2.out⟩
      · have HE : Hid (l ++ bindersT t = lj) := Lib.hid (by rw [hs.out, List.drop_eq_nil_of_le (by omega), bindersTs, List.append_nil])
        go_wp2_with fail
        go_end0
        exact ⟨rfl, hkj.out, by rw [HE.out]; exact hIj.out⟩
theorem look_any (t : Term) : LookSpec t := by
  induction t using Term.ind with
  | h t _ ihn => exact look_step t ihn
end Go.Proofs.Ytjcgoohmhbgkiaa
set_option linter.all false
set_option linter.all false
namespace Go.Proofs.Ytjcgoohmhbgkiaa
open Go.RowKit
set_option maxHeartbeats 1000000

structure Placed (w : World) (l : List Int) (e : Ending) (w' : World) : Prop where
  bel : Below w.heap.size w w'
  ret : ∃ mb, e = .returned (.map (some mb)) ∧ IMap w' mb (numbered l) ∧ w.heap.size ≤ mb
theorem BoxAt.new' (w : World) (cs : List Value) (t : TypeId) (b : Nat) (hb : b = w.heap.size) : BoxAt b (w.alloc (.cells cs.toArray t)) cs := hb ▸ BoxAt.new w cs t
theorem look_call {m : Mp} {c : List Value} {t : Term} (hr : RTerm m c t) {w wx : World} (hb : Below w.heap.size w wx) (hm : Ag m w) {ob lb mb : Nat} {l : List Int} (h1 : wx.cell? ⟨ob, 0, none⟩ = some (.map (some mb)))
    (h2 : wx.cell? ⟨lb, 0, none⟩ = some (.func (.func 50) #[] #[.pointer (some ⟨ob, 0, none⟩), .pointer (some ⟨lb, 0, none⟩)])) (hI : IMap wx mb (numbered l)) (hnd : (l ++ bindersT t).Nodup) :
    Calls Try.prog 50 #[.agg c.toArray, .pointer (some ⟨ob, 0, none⟩), .pointer (some ⟨lb, 0, none⟩)] wx (Looked wx mb (l ++ bindersT t)) := look_any t m c hr wx ob lb mb l (hm.later hb) h1 h2 hI hnd
set_option maxRecDepth 100000 in
theorem places_any {m : Mp} {g : Int × List Int × Term} {pb : Option Addr} {pc : Nat} (hp : RInts m (.slice pb g.2.1.length pc) g.2.1) {c0 c1 c2 c3 c4 c5 c6 c7 : Value} (hr : RTerm m [c0, c1, c2, c3, c4, c5, c6, c7] g.2.2) (hnd : (placesF g).Nodup) (w : World) (hm : Ag m w) :
    Calls Try.prog 35 #[.agg #[.int .i64 g.1, .slice pb g.2.1.length pc, c0, c1, c2, c3, c4, c5, c6, c7]] w (Placed w (placesF g)) := by
  have HM := Lib.hid hm
  have HP := Lib.hid hp
  have HR := Lib.hid hr
  have HND := Lib.hid hnd
  have p2 := hp.len
  have hmm := @run_makeMap Try.prog
  have hmf : ∀ (fn : Fn) (first cap : Array Value) (w : World), (Instr.makeFunc fn first cap).run Try.prog w = .ok (.func fn first cap) w := fun _ _ _ _ => rfl
  clear hm hp hr hnd
  go_enter Try.func35, Try.ntmps35
  go_wp2_with fail
  go_loopg [11] (g.2.1.length) (fun q i wr => ∃ j : Nat, j + q = g.2.1.length ∧ i = .int .i64 j ∧ Hid (IMap wr (w.heap.size + 1) (numbered (g.2.1.take j))) ∧ Hid (Below w.heap.size w wr) ∧ w.heap.size + 2 < wr.heap.size ∧ wr.cell? ⟨w.heap.size + 1 + 1, 0, none⟩ = some (.map (some (w.heap.size + 1))) ∧
    (∀ k v, [Value.int .i64 g.1, .slice pb g.2.1.length pc, c0, c1, c2, c3, c4, c5, c6, c7][k]? = some v → wr.cell? ⟨w.heap.size, k, none⟩ = some v))
  case atStart =>
    refine ⟨0, by omega, rfl, ?_, ?_, ?_, ?_, ?_⟩
    · exact Lib.hid (((IMap.new' (w.alloc _) _ (by simp)).below (below_box _ _)))
    · exact Lib.hid (bgo (bgo (below_box _ _) (below_box _ _)) (below_box _ _))
    · simp
    · exact ((BoxAt.new' ((w.alloc _).alloc _) [.map (some (w.heap.size + 1))] _ _ (by simp)).2 0 _ rfl)
    · exact fun k v hk => (((BoxAt.new w [Value.int .i64 g.1, .slice pb g.2.1.length pc, c0, c1, c2, c3, c4, c5, c6, c7] 54).later (below_box _ _)).later (below_box _ _)).2 k v hk
  case round =>
    obtain ⟨j, hj, rfl, hI, hbel, hsz, hob, hcs⟩ := hrel
    have HCS := Lib.hid hcs
    clear hcs
    by_cases hlt : j < g.2.1.length
    · obtain ⟨b, o, rfl, ea⟩ := RInts.at HP.out (HM.out.later hbel.out) j hlt
      have hIo := hI.out
      have hx : g.2.1[j] ∉ g.2.1.take j := fun h => by
        have h1 : (g.2.1.take (j + 1)).Nodup := List.Nodup.sublist (List.take_sublist _ _) (List.Nodup.sublist (List.sublist_append_left _ _) HND.out)
        rw [List.take_succ_eq_append_getElem hlt] at h1
        exact (List.nodup_append.1 h1).2.2 _ h _ List.mem_cons_self rfl
      have HX := Lib.hid hx
      have hln := fun ty => run_len_I (P := Try.prog) (ty := ty) Try.underlying83 hIo
      rw [numbered_length, List.length_take, Nat.min_eq_left (by omega)] at hln
      clear hx
      go_wp2_with (at_mapUpdate; refine wpList_mapUpdate_I (b := w.heap.size + 1) rfl _ _ _ _ _ _ rfl Try.underlying83 Try.underlying3 rfl _ rfl hIo ?_; intro w1 hIq hg1 hz1)
      go_roundg (g.2.1.length - (j + 1))
      case measure => omega
      case rel =>
        refine ⟨j + 1, by omega, by go_num, ?_, ?_, ?_, ?_, ?_⟩
        · rw [List.take_succ_eq_append_getElem hlt]
          refine Lib.hid ?_
          rw [← numbered_put HX.out, List.length_take, Nat.min_eq_left (by omega)]
          exact hIq
        · exact Lib.hid (hbel.out.trans ((Kept.grown (S := [w.heap.size + 1]) hg1 (by simp)).toBelow hbel.out.size (by simp)))
        · omega
        · exact hg1.cell hob (by simp)
        · exact fun k v hk => hg1.cell (HCS.out k v hk) (by simp)
    · have e : g.2.1.take j = g.2.1 := List.take_of_length_le (by omega)
      rw [e] at hI
      have hs0 : w.heap.size < wr.heap.size := by omega
      have hs2 : w.heap.size + 1 + 1 < wr.heap.size := by omega
      have z2 := HCS.out 2 _ rfl
      have z3 := HCS.out 3 _ rfl
      have z4 := HCS.out 4 _ rfl
      have z5 := HCS.out 5 _ rfl
      have z6 := HCS.out 6 _ rfl
      have z7 := HCS.out 7 _ rfl
      have z8 := HCS.out 8 _ rfl
      have z9 := HCS.out 9 _ rfl
      go_wp2_with fail
      have HC := Lib.hid (look_call HR.out (below_box wr (.cells #[.func (.func 50) #[] #[.pointer (some ⟨w.heap.size + 1 + 1, 0, none⟩), .pointer (some ⟨wr.heap.size, 0, none⟩)]] 87)) (HM.out.later hbel.out) (((below_box wr _).cell hs2).trans hob) ((BoxAt.new wr [.func (.func 50) #[] #[.pointer (some ⟨w.heap.size + 1 + 1, 0, none⟩), .pointer (some ⟨wr.heap.size, 0, none⟩)]] 87).2 0 _ rfl) (hI.out.below (below_box wr _)) HND.out)
      have HOB := Lib.hid (((below_box wr (.cells #[.func (.func 50) #[] #[.pointer (some ⟨w.heap.size + 1 + 1, 0, none⟩), .pointer (some ⟨wr.heap.size, 0, none⟩)]] 87)).cell hs2).trans hob)
      go_wp2_with (go_at_call 50; refine HC.out.mono ?_; rintro e w2 ⟨rfl, hk2, hI2⟩; have d0 := hk2.cell HOB.out (by simp); have HK2 := Lib.hid hk2; have HI2 := Lib.hid hI2; clear hk2 hI2)
      go_ret
      have hb9 := bgo hbel.out (below_box wr (.cells #[.func (.func 50) #[] #[.pointer (some ⟨w.heap.size + 1 + 1, 0, none⟩), .pointer (some ⟨wr.heap.size, 0, none⟩)]] 87))
      exact ⟨hb9.trans (HK2.out.toBelow hb9.size (by simp)), w.heap.size + 1, rfl, HI2.out, by omega⟩
end Go.Proofs.Ytjcgoohmhbgkiaa
set_option linter.all false
set_option linter.all false
namespace Go.Proofs.Ytjcgoohmhbgkiaa
open Go.RowKit
set_option maxHeartbeats 1000000

def Caught (B : Nat) (st : Bool) (en : Int) (older : List PanicEntry) (w : World) (e : Ending) (u' : FrameMode) (w' : World) : Prop :=
  e = .returned (.tuple #[]) ∧ u' = .panicking ({ v := stopV st en, recovered := true } :: older) ∧ w'.cell? ⟨B, 0, none⟩ = some (.int .i64 en) ∧ w'.cell? ⟨B, 1, none⟩ = some (.bool st) ∧ Kept [B] w w'
set_option maxRecDepth 20000 in
theorem catch_stop (B : Nat) (st : Bool) (en : Int) (e0 : Int) (s0 : Bool) (older : List PanicEntry) (w : World) (h0 : w.cell? ⟨B, 0, none⟩ = some (.int .i64 e0)) (h1 : w.cell? ⟨B, 1, none⟩ = some (.bool s0)) (hz : ∀ j, w.frozen? ⟨B, j, none⟩ = false) :
    CallsD Try.prog 51 #[.pointer (some ⟨B, 0, none⟩)] (.panicking ({ v := stopV st en, recovered := false } :: older)) w (Caught B st en older w) := by
  have hz0 := hz 0
  have hz1 := hz 1
  have hB := World.block_lt_of_cell? w _ h0
  refine callsD_of_wpS Try.func51 rfl fun c₀ cs hu => ?_
  rw [stopV] at hu
  apply wpS_seq
  apply wpS_region
  simp [wpOpsS, go_sem, recoverD, hu, Try.ntmps51, Exit.thenS]
  refine wpS_of_wp ?_
  rw [show (#[Value.pointer (some ⟨B, 0, none⟩)] ++ (Array.replicate 8 undef).setIfInBounds 2 (Value.iface 103 (Value.agg #[Value.int .i64 en, Value.bool st]))) = #[Value.pointer (some ⟨B, 0, none⟩), undef, undef, Value.iface 103 (Value.agg #[Value.int .i64 en, Value.bool st]), undef, undef, undef, undef, undef] from rfl]
  have hta : ∀ w, (Instr.typeAssert (.iface 103 (.agg #[.int .i64 en, .bool st])) 20 103 true).run Try.prog w = .ok (.tuple #[.agg #[.int .i64 en, .bool st], .bool true]) w := fun w => by kernel_rfl
  go_wp2
  have hb9 := below_box ((w.setCell ⟨B, 0, none⟩ (.int .i64 en)).setCell ⟨B, 1, none⟩ (.bool st)) (.cells #[.int .i64 en, .bool st] 103)
  have hB2 : B < ((w.setCell ⟨B, 0, none⟩ (.int .i64 en)).setCell ⟨B, 1, none⟩ (.bool st)).heap.size := by rw [size_setCell, size_setCell]; exact hB
  have k1 : (w.setCell ⟨B, 0, none⟩ (.int .i64 en)).cell? ⟨B, 1, none⟩ = some (.bool s0) := (World.cell?_setCell_other _ _ _ _ (by simp)).trans h1
  have k0 : (w.setCell ⟨B, 0, none⟩ (.int .i64 en)).cell? ⟨B, 0, none⟩ = some (.int .i64 en) := World.cell?_setCell_same _ _ _ h0
  have r0 := ((hb9.cell hB2).trans (World.cell?_setCell_other _ ⟨B, 1, none⟩ ⟨B, 0, none⟩ _ (by simp))).trans k0
  have r1 := (hb9.cell hB2).trans (World.cell?_setCell_same _ ⟨B, 1, none⟩ _ k1)
  have rk : Kept [B] w (((w.setCell ⟨B, 0, none⟩ (.int .i64 en)).setCell ⟨B, 1, none⟩ (.bool st)).alloc (.cells #[.int .i64 en, .bool st] 103)) :=
    ((kept_setCell (by simp) w 0 _).trans (kept_setCell (by simp) _ 1 _)).trans (Kept.below hb9)
  simp [bodyPostS, results, Try.results51]
  exact ⟨rfl, rfl, r0, r1, rk⟩
end Go.Proofs.Ytjcgoohmhbgkiaa
