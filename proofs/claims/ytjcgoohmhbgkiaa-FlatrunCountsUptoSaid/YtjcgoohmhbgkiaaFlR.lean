/- Where each variable of a function stands: places, whole. -/
import Derived.Test.YtjcgoohmhbgkiaaProg
import Derived.Test.YtjcgoohmhbgkiaaFlQ
import Derived.Laws.EntriesVeiled
set_option linter.all false
set_option linter.all false
namespace Go.Proofs.Ytjcgoohmhbgkiaa
open Go.RowKit
set_option maxHeartbeats 1000000

structure Placed (w : World) (l : List Int) (e : Ending) (w' : World) : Prop where
  bel : Below w.heap.size w w'
  ret : ∃ mb, e = .returned (.map (some mb)) ∧ IMap w' mb (numbered l) ∧ w.heap.size ≤ mb
theorem BoxAt.new' (w : World) (cs : List Value) (t : TypeId) (b : Nat) (hb : b = w.heap.size) : BoxAt b (w.alloc (.cells cs.toArray t)) cs := hb ▸ BoxAt.new w cs t
theorem look_call {m : Mp} {c : List Value} {t : Term} (hr : RTerm m c t) {w wx : World} (hb : Below w.heap.size w wx) (hm : Ag m w) {ob lb mb : Nat} {l : List Int} (h1 : wx.cell? ⟨ob, 0, none⟩ = some (.map (some mb)))
    (h2 : wx.cell? ⟨lb, 0, none⟩ = some (.func (.func 50) #[] #[.pointer (some ⟨ob, 0, none⟩), .pointer (some ⟨lb, 0, none⟩)])) (hI : IMap wx mb (numbered l)) (hnd : (l ++ bindersT t).Nodup) :
    Calls Try.prog 50 #[.agg c.toArray, .pointer (some ⟨ob, 0, none⟩), .pointer (some ⟨lb, 0, none⟩)] wx (Looked wx mb (l ++ bindersT t)) := look_any t m c hr wx ob lb mb l (hm.later hb) h1 h2 hI hnd
set_option maxRecDepth 100000 in
theorem places_any {m : Mp} {g : Int × List Int × Term} {pb : Option Addr} {pc : Nat} (hp : RInts m (.slice pb g.2.1.length pc) g.2.1) {c0 c1 c2 c3 c4 c5 c6 c7 : Value} (hr : RTerm m [c0, c1, c2, c3, c4, c5, c6, c7] g.2.2) (hnd : (placesF g).Nodup) (w : World) (hm : Ag m w) :
    Calls Try.prog 35 #[.agg #[.int .i64 g.1, .slice pb g.2.1.length pc, c0, c1, c2, c3, c4, c5, c6, c7]] w (Placed w (placesF g)) := by
  have HM := Lib.hid hm
  have HP := Lib.hid hp
  have HR := Lib.hid hr
  have HND := Lib.hid hnd
  have p2 := hp.len
  have hmm := @run_makeMap Try.prog
  have hmf : ∀ (fn : Fn) (first cap : Array Value) (w : World), (Instr.makeFunc fn first cap).run Try.prog w = .ok (.func fn first cap) w := fun _ _ _ _ => rfl
  clear hm hp hr hnd
  go_enter Try.func35, Try.ntmps35
  go_wp2_with fail
  go_loopg [11] (g.2.1.length) (fun q i wr => ∃ j : Nat, j + q = g.2.1.length ∧ i = .int .i64 j ∧ Hid (IMap wr (w.heap.size + 1) (numbered (g.2.1.take j))) ∧ Hid (Below w.heap.size w wr) ∧ w.heap.size + 2 < wr.heap.size ∧ wr.cell? ⟨w.heap.size + 1 + 1, 0, none⟩ = some (.map (some (w.heap.size + 1))) ∧
    (∀ k v, [Value.int .i64 g.1, .slice pb g.2.1.length pc, c0, c1, c2, c3, c4, c5, c6, c7][k]? = some v → wr.cell? ⟨w.heap.size, k, none⟩ = some v))
  case atStart =>
    refine ⟨0, by omega, rfl, ?_, ?_, ?_, ?_, ?_⟩
    · exact Lib.hid (((IMap.new' (w.alloc _) _ (by simp)).below (below_box _ _)))
    · exact Lib.hid (bgo (bgo (below_box _ _) (below_box _ _)) (below_box _ _))
    · simp
    · exact ((BoxAt.new' ((w.alloc _).alloc _) [.map (some (w.heap.size + 1))] _ _ (by simp)).2 0 _ rfl)
    · exact fun k v hk => (((BoxAt.new w [Value.int .i64 g.1, .slice pb g.2.1.length pc, c0, c1, c2, c3, c4, c5, c6, c7] 54).later (below_box _ _)).later (below_box _ _)).2 k v hk
  case round =>
    obtain ⟨j, hj, rfl, hI, hbel, hsz, hob, hcs⟩ := hrel
    have HCS := Lib.hid hcs
    clear hcs
    by_cases hlt : j < g.2.1.length
    · obtain ⟨b, o, rfl, ea⟩ := RInts.at HP.out (HM.out.later hbel.out) j hlt
      have hIo := hI.out
      have hx : g.2.1[j] ∉ g.2.1.take j := fun h => by
        have h1 : (g.2.1.take (j + 1)).Nodup := List.Nodup.sublist (List.take_sublist _ _) (List.Nodup.sublist (List.sublist_append_left _ _) HND.out)
        rw [List.take_succ_eq_append_getElem hlt] at h1
        exact (List.nodup_append.1 h1).2.2 _ h _ List.mem_cons_self rfl
      have HX := Lib.hid hx
      have hln := fun ty => run_len_I (P := Try.prog) (ty := ty) Try.underlying83 hIo
      rw [numbered_length, List.length_take, Nat.min_eq_left (by omega)] at hln
      clear hx
      go_wp2_with (at_mapUpdate; refine wpList_mapUpdate_I (b := w.heap.size + 1) rfl _ _ _ _ _ _ rfl Try.underlying83 Try.underlying3 rfl _ rfl hIo ?_; intro w1 hIq hg1 hz1)
      go_roundg (g.2.1.length - (j + 1))
      case measure => omega
      case rel =>
        refine ⟨j + 1, by omega, by go_num, ?_, ?_, ?_, ?_, ?_⟩
        · rw [List.take_succ_eq_append_getElem hlt]
          refine Lib.hid ?_
          rw [← numbered_put HX.out, List.length_take, Nat.min_eq_left (by omega)]
          exact hIq
        · exact Lib.hid (hbel.out.trans ((Kept.grown (S := [w.heap.size + 1]) hg1 (by simp)).toBelow hbel.out.size (by simp)))
        · omega
        · exact hg1.cell hob (by simp)
        · exact fun k v hk => hg1.cell (HCS.out k v hk) (by simp)
    · have e : g.2.1.take j = g.2.1 := List.take_of_length_le (by omega)
      rw [e] at hI
      have hs0 : w.heap.size < wr.heap.size := by omega
      have hs2 : w.heap.size + 1 + 1 < wr.heap.size := by omega
      have z2 := HCS.out 2 _ rfl
      have z3 := HCS.out 3 _ rfl
      have z4 := HCS.out 4 _ rfl
      have z5 := HCS.out 5 _ rfl
      have z6 := HCS.out 6 _ rfl
      have z7 := HCS.out 7 _ rfl
      have z8 := HCS.out 8 _ rfl
      have z9 := HCS.out 9 _ rfl
      go_wp2_with fail
      have HC := Lib.hid (look_call HR.out (below_box wr (.cells #[.func (.func 50) #[] #[.pointer (some ⟨w.heap.size + 1 + 1, 0, none⟩), .pointer (some ⟨wr.heap.size, 0, none⟩)]] 87)) (HM.out.later hbel.out) (((below_box wr _).cell hs2).trans hob) ((BoxAt.new wr [.func (.func 50) #[] #[.pointer (some ⟨w.heap.size + 1 + 1, 0, none⟩), .pointer (some ⟨wr.heap.size, 0, none⟩)]] 87).2 0 _ rfl) (hI.out.below (below_box wr _)) HND.out)
      have HOB := Lib.hid (((below_box wr (.cells #[.func (.func 50) #[] #[.pointer (some ⟨w.heap.size + 1 + 1, 0, none⟩), .pointer (some ⟨wr.heap.size, 0, none⟩)]] 87)).cell hs2).trans hob)
      go_wp2_with (go_at_call 50; refine HC.out.mono ?_; rintro e w2 ⟨rfl, hk2, hI2⟩; have d0 := hk2.cell HOB.out (by simp); have HK2 := Lib.hid hk2; have HI2 := Lib.hid hI2; clear hk2 hI2)
      go_ret
      have hb9 := bgo hbel.out (below_box wr (.cells #[.func (.func 50) #[] #[.pointer (some ⟨w.heap.size + 1 + 1, 0, none⟩), .pointer (some ⟨wr.heap.size, 0, none⟩)]] 87))
      exact ⟨hb9.trans (HK2.out.toBelow hb9.size (by simp)), w.heap.size + 1, rfl, HI2.out, by omega⟩
end Go.Proofs.Ytjcgoohmhbgkiaa
