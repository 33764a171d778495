/- The term that halts with its input: it is a good term. What the small term has from around: the sets of variables. A run that the laws of layer 25 ask for: flat.Make's body, at one small term. A run that the laws of layer 25 ask for: flat.Make's body, at one small term. -/
import Derived.Test.YtimljadlfhccpaaProg
import Derived.Test.YtimljadlfhccpaaMA
import Derived.Test.YtimljadlfhccpaaMB
import Derived.Test.YtimljadlfhccpaaMP
import Derived.Test.YtimljadlfhccpaaPush
import Derived.Test.YtimljadlfhccpaaMF
import Derived.Test.YtimljadlfhccpaaMG
import Derived.Maps.RangeRun
set_option linter.all false
set_option linter.all false
namespace Go.Proofs.Ytimljadlfhccpaa
open Go.RowKit
set_option maxHeartbeats 1000000

/-- The term's cells. -/
def haltC (ab : Nat) : Value := .agg #[.int .i64 8, .int .i64 0, .int .i64 0, .bool false, .slice none 0 0, .slice (some ⟨ab, 0, none⟩) 1 1, .slice none 0 0, .slice none 0 0]
structure HaltAt (ab : Nat) (w : World) : Prop where
  lt : ab < w.heap.size
  c0 : w.cell? ⟨ab, 0, none⟩ = some (.bool true)
  c1 : w.cell? ⟨ab, 1, none⟩ = some (.int .i64 0)
theorem HaltAt.later {ab : Nat} {w w' : World} (h : HaltAt ab w) (hb : Below w.heap.size w w') : HaltAt ab w' :=
  ⟨Nat.lt_of_lt_of_le h.lt hb.size, (hb.cell h.lt).trans h.c0, (hb.cell h.lt).trans h.c1⟩
def haltT : Term := .mk 8 0 0 false [] [⟨true, 0⟩] [] []
theorem HaltAt.term {ab : Nat} {w : World} (h : HaltAt ab w) : RTerm (fun a => w.cell? a) [.int .i64 8, .int .i64 0, .int .i64 0, .bool false, .slice none 0 0, .slice (some ⟨ab, 0, none⟩) 1 1, .slice none 0 0, .slice none 0 0] haltT := by
  refine .mk 8 0 0 false [] [⟨true, 0⟩] [] [] _ _ _ _ (fun _ => []) (fun _ => []) (fun _ => []) (fun _ => .bool false) ⟨by omega, by omega⟩ ⟨by omega, by omega⟩ ⟨by omega, by omega⟩ (RInts.nil _) ?_ ⟨none, 0, rfl, by simp, by simp, by simp⟩ ⟨none, 0, rfl, by simp, by simp, by simp⟩ (by simp) (by simp) (by simp)
  refine ⟨⟨some ⟨ab, 0, none⟩, 1, rfl, by simp, by simp, fun _ => ⟨ab, 0, rfl, fun i hi => ⟨rfl, fun k v hk => ?_⟩⟩⟩, fun x hx => ?_⟩
  · obtain rfl : i = 0 := by simp at hi; exact hi
    match k, hk with
    | 0, hk => simp [atomCells] at hk; subst hk; simpa using h.c0
    | 1, hk => simp [atomCells] at hk; subst hk; simpa using h.c1
    | k + 2, hk => simp [atomCells] at hk
  · simp at hx; subst hx; exact ⟨by show _ ≤ (0 : Int); omega, by show (0 : Int) ≤ _; omega⟩
set_option maxRecDepth 100000 in
theorem formed_halt (ab : Nat) (w : World) : Calls Try.prog 68 #[haltC ab] w fun e w' => e = .returned (.bool true) ∧ Below w.heap.size w w' := by
  unfold haltC
  go_enter Try.func68, Try.ntmps68
  go_wp2_with fail
  go_ret
  exact ⟨rfl, bgo (below_box _ _) (below_box _ _)⟩
/-- The looker: what is bound around is 0 alone. -/
structure LkH (kb mb : Nat) (w : World) : Prop where
  c1 : w.cell? ⟨kb, 1, none⟩ = some (.map (some mb))
  I : IMap w mb [(0, .int .i64 1)]
theorem LkH.later {kb mb : Nat} {w w' : World} (h : LkH kb mb w) (hb : Below w.heap.size w w') : LkH kb mb w' := ⟨(hb.cell (World.block_lt_of_cell? w _ h.c1)).trans h.c1, h.I.below hb⟩
theorem haltClo {B kb mb : Nat} {w : World} (hk : LkH kb mb w) (hB : w.cell? ⟨B, 0, none⟩ = some (.pointer (some ⟨kb, 0, none⟩))) :
    Calls Try.prog 80 #[.agg #[.bool true, .int .i64 0], .pointer (some ⟨B, 0, none⟩)] w fun e w' => e = .returned (.bool false) ∧ Below w.heap.size w w' := by
  have hBs : B < w.heap.size := World.block_lt_of_cell? w _ hB
  have hks : kb < w.heap.size := World.block_lt_of_cell? w _ hk.c1
  have c1 := hk.c1
  have hI := hk.I
  have hl : ∀ n, (Instr.lookup 52 (.map (some mb)) (.int .i64 0) false).run Try.prog ((w.alloc (.cells #[.bool true, .int .i64 0] 76)).drewN n) = .ok (.int .i64 1) ((w.alloc (.cells #[.bool true, .int .i64 0] 76)).drewN n) := fun n => by
    rw [run_lookup_I Try.underlying52 Try.underlying3 zero_int ((hI.below (below_box _ _)).same (by rfl)) 0 false]; rfl
  clear hk hI
  go_enter Try.func80, Try.ntmps80
  go_wp2_with fail
  go_quiet (fail)
  go_wp2_with fail
  go_ret
  exact ⟨rfl, below_drewN (below_box _ _) _⟩
theorem haltAtoms {ab B kb mb : Nat} {w : World} (hh : HaltAt ab w) (hk : LkH kb mb w) (hB : w.cell? ⟨B, 0, none⟩ = some (.pointer (some ⟨kb, 0, none⟩))) :
    Calls Try.prog 37 #[.slice (some ⟨ab, 0, none⟩) 1 1, .func (.func 80) #[] #[.pointer (some ⟨B, 0, none⟩)]] w fun e w' => e = .returned (.bool false) ∧ Below w.heap.size w w' := by
  have HH := Lib.hid hh
  have HC := Lib.hid (haltClo hk hB)
  have h0 := hh.c0
  have h1 := hh.c1
  have HI : Hid (Calls Try.prog 65 #[.slice (some ⟨ab, 0, none⟩) 1 1, .func (.func 80) #[] #[.pointer (some ⟨B, 0, none⟩)]] w fun e w' => e = .returned (.int .i64 (-1)) ∧ Below w.heap.size w w') := Lib.hid (by
    clear hh hk hB
    go_enter Try.func65, Try.ntmps65
    go_wp2_with fail
    refine wp_loop_rounds 2 ?_
    rw [rounds_succ]
    go_wp2_with (go_at_call 80; refine HC.out.mono ?_; rintro e w1 ⟨rfl, hb1⟩)
    rw [rounds_succ]
    go_wp2_with fail
    go_ret
    exact ⟨rfl, hb1⟩)
  clear hh hk hB HC h0 h1
  go_enter Try.func37, Try.ntmps37
  go_wp2_with (go_at_call 65; refine HI.out.mono ?_; rintro e w1 ⟨rfl, hb1⟩)
  go_ret
  exact ⟨rfl, hb1⟩
theorem noTerms (f : Value) (w : World) :
    Calls Try.prog 40 #[.slice none 0 0, f] w fun e w' => e = .returned (.bool false) ∧ w = w' := by
  have HI : Hid (Calls Try.prog 66 #[.slice none 0 0, f] w fun e w' => e = .returned (.int .i64 (-1)) ∧ w = w') := Lib.hid (by
    go_enter Try.func66, Try.ntmps66
    go_wp2_with fail
    refine wp_loop_rounds 1 ?_
    rw [rounds_succ]
    go_wp2_with fail
    go_ret
    exact ⟨rfl, rfl⟩)
  go_enter Try.func40, Try.ntmps40
  go_wp2_with (go_at_call 66; refine HI.out.mono ?_; rintro e w1 ⟨rfl, rfl⟩)
  go_ret
  exact ⟨rfl, rfl⟩
set_option maxRecDepth 100000 in
/-- The looker calls it good. -/
theorem looks_halt {ab kb mb : Nat} {w : World} (hh : HaltAt ab w) (hk : LkH kb mb w) :
    Calls Try.prog 48 #[.pointer (some ⟨kb, 0, none⟩), haltC ab] w fun e w' => e = .returned (.bool true) ∧ Below w.heap.size w w' := by
  have HH := Lib.hid hh
  have HK := Lib.hid hk
  have HA : Hid (∀ wx : World, Below w.heap.size w wx → Calls Try.prog 69 #[.pointer (some ⟨kb, 0, none⟩), .slice (some ⟨ab, 0, none⟩) 1 1] wx fun e w' => e = .returned (.bool true) ∧ Below wx.heap.size wx w') := Lib.hid (fun wx hb => by
    have HC := Lib.hid (haltAtoms (B := wx.heap.size) ((HH.out.later hb).later (below_box wx (.cells #[.pointer (some ⟨kb, 0, none⟩)] 96))) ((HK.out.later hb).later (below_box wx (.cells #[.pointer (some ⟨kb, 0, none⟩)] 96))) ((BoxAt.new wx [.pointer (some ⟨kb, 0, none⟩)] 96).2 0 _ rfl))
    clear hb hh hk
    have hmf : ∀ (fn : Fn) (first cap : Array Value) (w : World), (Instr.makeFunc fn first cap).run Try.prog w = .ok (.func fn first cap) w := fun _ _ _ _ => rfl
    go_enter Try.func69, Try.ntmps69
    go_wp2_with (go_at_call 37; refine HC.out.mono ?_; rintro e w1 ⟨rfl, hb1⟩)
    go_ret
    exact ⟨rfl, bgo (below_box _ _) hb1⟩)
  have HN : Hid (∀ wx : World, Calls Try.prog 72 #[.pointer (some ⟨kb, 0, none⟩), .slice none 0 0] wx fun e w' => e = .returned (.bool true) ∧ Below wx.heap.size wx w') := Lib.hid (fun wx => by
    clear hh hk
    have hmf : ∀ (fn : Fn) (first cap : Array Value) (w : World), (Instr.makeFunc fn first cap).run Try.prog w = .ok (.func fn first cap) w := fun _ _ _ _ => rfl
    go_enter Try.func72, Try.ntmps72
    go_wp2_with (go_at_call 40; refine (noTerms _ _).mono ?_; rintro e w1 ⟨rfl, rfl⟩)
    go_ret
    exact ⟨rfl, below_box _ _⟩)
  clear hh hk
  unfold haltC
  have HF := Lib.hid (fun (wx : World) => formed_halt ab wx)
  unfold haltC at HF
  go_enter Try.func48, Try.ntmps48
  go_wp2_with (first | (go_at_call 68; refine (HF.out _).mono ?_; rintro e w3 ⟨rfl, hb3⟩; have HB3 := Lib.hid (bgo (bgo (below_box w (.cells #[.pointer (some ⟨kb, 0, none⟩)] 96)) (below_box _ (.cells #[.int .i64 8, .int .i64 0, .int .i64 0, .bool false, .slice none 0 0, .slice (some ⟨ab, 0, none⟩) 1 1, .slice none 0 0, .slice none 0 0] 34))) hb3); have X1 := Lib.hid (((BoxAt.new w [.pointer (some ⟨kb, 0, none⟩)] 96).later (below_box _ (.cells #[.int .i64 8, .int .i64 0, .int .i64 0, .bool false, .slice none 0 0, .slice (some ⟨ab, 0, none⟩) 1 1, .slice none 0 0, .slice none 0 0] 34))).later hb3); have X2 := Lib.hid ((BoxAt.new (w.alloc (.cells #[.pointer (some ⟨kb, 0, none⟩)] 96)) [.int .i64 8, .int .i64 0, .int .i64 0, .bool false, .slice none 0 0, .slice (some ⟨ab, 0, none⟩) 1 1, .slice none 0 0, .slice none 0 0] 34).later hb3); clear hb3; have y0 := X1.out.2 0 _ rfl; have z5 := X2.out.2 5 _ rfl; simp only [World.size_alloc] at z5) |
    (go_at_call 69; refine (HA.out _ HB3.out).mono ?_; rintro e w4 ⟨rfl, hb4⟩; have HB4 := Lib.hid (bgo HB3.out hb4); have Y1 := Lib.hid (X1.out.later hb4); have Y2 := Lib.hid (X2.out.later hb4); clear hb4 y0 z5; have y0 := Y1.out.2 0 _ rfl; have z0 := Y2.out.2 0 _ rfl; have z7 := Y2.out.2 7 _ rfl; simp only [World.size_alloc] at z0 z7) |
    (go_at_call 72; refine (HN.out _).mono ?_; rintro e w5 ⟨rfl, hb5⟩))
  go_ret
  exact ⟨rfl, bgo HB4.out hb5⟩
set_option maxRecDepth 100000 in
theorem cpsGood_halt {ab : Nat} {w : World} (hh : HaltAt ab w) : Calls Try.prog 29 #[haltC ab] w fun e w' => e = .returned (.bool true) ∧ Below w.heap.size w w' := by
  have HH := Lib.hid hh
  have hmm := @run_makeMap Try.prog
  obtain ⟨w3, hrun, hI3, hg3, hz3⟩ := run_mapUpdate_I Try.underlying52 Try.underlying3 (IMap.new ((w.alloc (.cells #[.int .i64 8, .int .i64 0, .int .i64 0, .bool false, .slice none 0 0, .slice (some ⟨ab, 0, none⟩) 1 1, .slice none 0 0, .slice none 0 0] 34)).alloc (.map #[] 0))) 0 (.int .i64 1)
  have hb3 : Below w.heap.size w w3 := below_grown (bgo (bgo (below_box w (.cells #[.int .i64 8, .int .i64 0, .int .i64 0, .bool false, .slice none 0 0, .slice (some ⟨ab, 0, none⟩) 1 1, .slice none 0 0, .slice none 0 0] 34)) (below_box _ (.map #[] 0))) (below_box _ (.map #[] 0))) hg3 (by simp only [World.size_alloc]; omega) (by simp only [World.size_alloc]; omega)
  simp only [World.size_alloc] at hrun hz3
  have z0 : ∀ j v, [Value.int .i64 8, .int .i64 0, .int .i64 0, .bool false, .slice none 0 0, .slice (some ⟨ab, 0, none⟩) 1 1, .slice none 0 0, .slice none 0 0][j]? = some v → w3.cell? ⟨w.heap.size, j, none⟩ = some v := fun j v hv => by
    have h1 := ((BoxAt.new w [.int .i64 8, .int .i64 0, .int .i64 0, .bool false, .slice none 0 0, .slice (some ⟨ab, 0, none⟩) 1 1, .slice none 0 0, .slice none 0 0] 34).later (bgo (below_box _ (.map #[] 0)) (below_box _ (.map #[] 0)))).2 j v hv
    exact (World.cell?_of_block (hg3.block w.heap.size (by simp only [World.size_alloc]; omega) (by simp only [World.size_alloc, ne_eq, Option.some.injEq]; omega))).trans h1
  have HB3 := Lib.hid hb3
  have HI3 := Lib.hid hI3
  have hz : w3.heap.size = w.heap.size + 1 + 1 + 1 := hz3
  have hlt : w.heap.size < w3.heap.size := by omega
  have HX : Hid (LkH w3.heap.size (w.heap.size + 1 + 1) (w3.alloc (.cells #[.map (some (w.heap.size + 1)), .map (some (w.heap.size + 1 + 1))] 98))) := Lib.hid ⟨(BoxAt.new w3 [.map (some (w.heap.size + 1)), .map (some (w.heap.size + 1 + 1))] 98).2 1 _ rfl, by have h := hI3; simp only [World.size_alloc] at h; exact h.below (below_box _ _)⟩
  have HSz := Lib.hid hz
  have y0 := z0 0 _ rfl
  have y1 := z0 1 _ rfl
  have y2 := z0 2 _ rfl
  have y3 := z0 3 _ rfl
  have y4 := z0 4 _ rfl
  have y5 := z0 5 _ rfl
  have y6 := z0 6 _ rfl
  have y7 := z0 7 _ rfl
  have HC := Lib.hid (fun (wx : World) (hb : Below w.heap.size w wx) => cSize ((HH.out.later hb).term) wx (fun _ _ h => h))
  have HL := Lib.hid (fun (wx : World) (hb : Below w.heap.size w wx) (hk : LkH w3.heap.size (w.heap.size + 1 + 1) wx) => looks_halt (HH.out.later hb) hk)
  unfold haltC at HL ⊢
  clear hh hz3 hI3 hg3 hb3 z0 hz
  go_enter Try.func29, Try.ntmps29
  go_wp2_with (first | (go_at_call 25; refine (HC.out _ (bgo HB3.out (below_box _ _))).mono ?_; rintro e w4 ⟨rfl, hb4⟩; have HB4 := Lib.hid (bgo (bgo HB3.out (below_box _ (.cells #[.map (some (w.heap.size + 1)), .map (some (w.heap.size + 1 + 1))] 98))) hb4); have HX4 := Lib.hid (HX.out.later hb4); have hs4 := hb4.size; simp only [World.size_alloc] at hs4; have e0 := (hb4.cell (p := ⟨w.heap.size, 0, none⟩) (by simp; omega)).trans (((below_box w3 _).cell (p := ⟨w.heap.size, 0, none⟩) (by simp; omega)).trans y0); have e1 := (hb4.cell (p := ⟨w.heap.size, 1, none⟩) (by simp; omega)).trans (((below_box w3 _).cell (p := ⟨w.heap.size, 1, none⟩) (by simp; omega)).trans y1); have e2 := (hb4.cell (p := ⟨w.heap.size, 2, none⟩) (by simp; omega)).trans (((below_box w3 _).cell (p := ⟨w.heap.size, 2, none⟩) (by simp; omega)).trans y2); have e3 := (hb4.cell (p := ⟨w.heap.size, 3, none⟩) (by simp; omega)).trans (((below_box w3 _).cell (p := ⟨w.heap.size, 3, none⟩) (by simp; omega)).trans y3); have e4 := (hb4.cell (p := ⟨w.heap.size, 4, none⟩) (by simp; omega)).trans (((below_box w3 _).cell (p := ⟨w.heap.size, 4, none⟩) (by simp; omega)).trans y4); have e5 := (hb4.cell (p := ⟨w.heap.size, 5, none⟩) (by simp; omega)).trans (((below_box w3 _).cell (p := ⟨w.heap.size, 5, none⟩) (by simp; omega)).trans y5); have e6 := (hb4.cell (p := ⟨w.heap.size, 6, none⟩) (by simp; omega)).trans (((below_box w3 _).cell (p := ⟨w.heap.size, 6, none⟩) (by simp; omega)).trans y6); have e7 := (hb4.cell (p := ⟨w.heap.size, 7, none⟩) (by simp; omega)).trans (((below_box w3 _).cell (p := ⟨w.heap.size, 7, none⟩) (by simp; omega)).trans y7); clear hb4 hs4) |
    (go_at_call 48; refine (HL.out _ HB4.out HX4.out).mono ?_; rintro e w5 ⟨rfl, hb5⟩))
  go_ret
  exact ⟨rfl, bgo HB4.out hb5⟩
end Go.Proofs.Ytimljadlfhccpaa
set_option linter.all false
namespace Go.Proofs.Ytimljadlfhccpaa
open Go.RowKit
set_option maxHeartbeats 1000000

/-- A range over a map that holds nothing. -/
theorem range_none {P : Program} {w : World} {b : Nat} {t k e : TypeId} (ht : P.underlying t = some (.map k e)) (h : IMap w b []) : ∃ c, (Instr.range t (.map (some b))).run P w = .ok (.pointer (some ⟨w.heap.size, 0, none⟩)) (w.alloc (.mapIter (some b) c #[] c)) ∧
    ∀ ty, (Instr.next (.pointer (some ⟨w.heap.size, 0, none⟩)) false ty).run P (w.alloc (.mapIter (some b) c #[] c)) = .ok (.tuple #[.bool false]) (w.alloc (.mapIter (some b) c #[] c)) := by
  have hlt := h.lt
  obtain ⟨ents, c, hb, hm, _⟩ := h
  have he : ents = #[] := by
    have h1 := congrArg List.length hm
    simp at h1
    exact h1
  subst he
  refine ⟨c, run_range_map w t k e b #[] c ht hb, fun ty => ?_⟩
  rcases run_next_at (P := P) (w.alloc (.mapIter (some b) c #[] c)) ty w.heap.size b c c #[] #[] c (by rw [heap_alloc_new]) (((below_box w (.mapIter (some b) c #[] c)).block b hlt).trans hb) (by simp) (Nat.le_refl _) with ⟨_, h⟩ | ⟨x, hx, _⟩
  · exact h
  · simp [leftOf] at hx
theorem gen_wpM {P : Program} {c : Code} {Q : Exit → Act → World → Prop} {a : Act} {W : World} (F : World → Prop) (h1 : F W) (h2 : ∀ W', F W' → c.wp P Q a W') : c.wp P Q a W := h2 W h1
set_option maxRecDepth 100000 in
theorem joined_one {w : World} {lb lc ob : Nat} (c0 : w.cell? ⟨lb, 0, none⟩ = some (.map (some ob))) (z0 : w.frozen? ⟨lb, 0, none⟩ = false) (I : IMap w ob [(0, .int .i64 1)]) :
    Calls Try.prog 49 #[.slice none 0 0, .slice (some ⟨lb, 0, none⟩) 1 lc] w fun e w' => e = .returned (.map (some ob)) ∧ Kept [lb] w w' := by
  have hlb : lb < w.heap.size := World.block_lt_of_cell? w _ c0
  have hmm := @run_makeMap Try.prog
  have hl1 := run_len_I (P := Try.prog) (T := 53) (ty := 3) Try.underlying53 (I.below (below_box w (.map #[] 0)))
  have hl2 := run_len_I (P := Try.prog) (T := 53) (ty := 3) Try.underlying53 (IMap.new w)
  simp only [List.length_cons, List.length_nil] at hl1 hl2
  clear I
  go_enter Try.func49, Try.ntmps49
  go_wp2_with fail
  refine wp_loop_rounds 2 ?_
  rw [rounds_succ]
  go_wp2_with fail
  rw [rounds_succ]
  go_wp2_with fail
  refine gen_wpM (fun wx => Hid (IMap wx w.heap.size [] ∧ wx.cell? ⟨lb, 0, none⟩ = some (.map (some w.heap.size)) ∧ Kept [lb] w wx)) (Lib.hid ⟨IMap.new' _ _ (size_setCell w _ _).symm, ((below_box (w.setCell ⟨lb, 0, none⟩ (.map (some w.heap.size))) (.map #[] 0)).cell (p := ⟨lb, 0, none⟩) (by rw [size_setCell]; exact hlb)).trans (World.cell?_setCell_same _ _ _ c0), (kept_setCell (by simp) _ _ _).trans (Kept.below (below_box _ _))⟩) ?_
  intro W HW
  have y0 := HW.out.2.1
  obtain ⟨c, hr1, hr2⟩ := range_none (P := Try.prog) Try.underlying53 HW.out.1
  clear c0 z0 hl1 hl2
  refine wp_loop_rounds 2 ?_
  rw [rounds_succ]
  go_wp2_with fail
  refine wp_loop_rounds 1 ?_
  rw [rounds_succ]
  go_wp2_with fail
  rw [rounds_succ]
  go_wp2_with fail
  refine wp_loop_rounds 1 ?_
  rw [rounds_succ]
  go_wp2_with fail
  go_ret
  exact ⟨rfl, HW.out.2.2.trans (Kept.below (below_box _ _))⟩
theorem infoM : (Try.prog.info? 53).map (fun i => (i.zero, i.size, i.bytes)) = some (some (.map none), 1, 8) := by kernel_rfl
set_option maxRecDepth 100000 in
theorem free_halt {mb ab : Nat} {w : World} (hh : HaltAt ab w) : Calls Try.prog 31 #[.pointer (some ⟨mb, 0, none⟩), haltC ab] w fun e w' => (∃ v, e = .returned (.map v)) ∧ Below w.heap.size w w' := by
  obtain ⟨i0, hi, hz0, hz1, hz2⟩ := info_parts infoM
  have HH := Lib.hid hh
  have hmm := @run_makeMap Try.prog
  have h0 := hh.c0
  have h1 := hh.c1
  have hlt := hh.lt
  have HI0 : Hid (IMap (((w.alloc (.cells #[.int .i64 8, .int .i64 0, .int .i64 0, .bool false, .slice none 0 0, .slice (some ⟨ab, 0, none⟩) 1 1, .slice none 0 0, .slice none 0 0] 34)).alloc (.map #[] 0)).alloc (.cells #[.bool true, .int .i64 0] 76)) (w.heap.size + 1) []) := Lib.hid ((IMap.new' (w.alloc (.cells #[.int .i64 8, .int .i64 0, .int .i64 0, .bool false, .slice none 0 0, .slice (some ⟨ab, 0, none⟩) 1 1, .slice none 0 0, .slice none 0 0] 34)) _ (by simp)).below (below_box _ _))
  have HB0 : Hid (Below w.heap.size w (((w.alloc (.cells #[.int .i64 8, .int .i64 0, .int .i64 0, .bool false, .slice none 0 0, .slice (some ⟨ab, 0, none⟩) 1 1, .slice none 0 0, .slice none 0 0] 34)).alloc (.map #[] 0)).alloc (.cells #[.bool true, .int .i64 0] 76))) := Lib.hid (bgo (bgo (below_box _ _) (below_box _ _)) (below_box _ _))
  have HX0 : Hid (BoxAt w.heap.size (((w.alloc (.cells #[.int .i64 8, .int .i64 0, .int .i64 0, .bool false, .slice none 0 0, .slice (some ⟨ab, 0, none⟩) 1 1, .slice none 0 0, .slice none 0 0] 34)).alloc (.map #[] 0)).alloc (.cells #[.bool true, .int .i64 0] 76)) [.int .i64 8, .int .i64 0, .int .i64 0, .bool false, .slice none 0 0, .slice (some ⟨ab, 0, none⟩) 1 1, .slice none 0 0, .slice none 0 0]) := Lib.hid (((BoxAt.new w [.int .i64 8, .int .i64 0, .int .i64 0, .bool false, .slice none 0 0, .slice (some ⟨ab, 0, none⟩) 1 1, .slice none 0 0, .slice none 0 0] 34).later (below_box _ (.map #[] 0))).later (below_box _ (.cells #[.bool true, .int .i64 0] 76)))
  have hlk : (Instr.lookup 53 (.map (some (w.heap.size + 1))) (.int .i64 0) false).run Try.prog (((w.alloc (.cells #[.int .i64 8, .int .i64 0, .int .i64 0, .bool false, .slice none 0 0, .slice (some ⟨ab, 0, none⟩) 1 1, .slice none 0 0, .slice none 0 0] 34)).alloc (.map #[] 0)).alloc (.cells #[.bool true, .int .i64 0] 76)) = .ok (.int .i64 0) (((w.alloc (.cells #[.int .i64 8, .int .i64 0, .int .i64 0, .bool false, .slice none 0 0, .slice (some ⟨ab, 0, none⟩) 1 1, .slice none 0 0, .slice none 0 0] 34)).alloc (.map #[] 0)).alloc (.cells #[.bool true, .int .i64 0] 76)) := by
    rw [run_lookup_I Try.underlying53 Try.underlying3 zero_int HI0.out 0 false]; rfl
  obtain ⟨w5, hrun, hI5, hg5, hz5⟩ := run_mapUpdate_I Try.underlying53 Try.underlying3 HI0.out 0 (.int .i64 1)
  have HI5 := Lib.hid hI5
  have hk5 : Kept [w.heap.size + 1] (((w.alloc (.cells #[.int .i64 8, .int .i64 0, .int .i64 0, .bool false, .slice none 0 0, .slice (some ⟨ab, 0, none⟩) 1 1, .slice none 0 0, .slice none 0 0] 34)).alloc (.map #[] 0)).alloc (.cells #[.bool true, .int .i64 0] 76)) w5 := Kept.grown hg5 (by simp)
  have HB5 : Hid (Below w.heap.size w w5) := Lib.hid (HB0.out.trans (hk5.toBelow HB0.out.size (by simp)))
  have HX5 : Hid (BoxAt w.heap.size w5 [.int .i64 8, .int .i64 0, .int .i64 0, .bool false, .slice none 0 0, .slice (some ⟨ab, 0, none⟩) 1 1, .slice none 0 0, .slice none 0 0]) := Lib.hid ⟨Nat.lt_of_lt_of_le HX0.out.1 hk5.size, fun j v hv => hk5.cell (HX0.out.2 j v hv) (by simp)⟩
  have z0 := HX5.out.2 0 _ rfl
  have z7 := HX5.out.2 7 _ rfl
  have HL : Hid (w5.heap.size = w.heap.size + 3) := Lib.hid (by simpa only [World.size_alloc, Nat.add_assoc] using hz5)
  have HJ : Hid (∀ wx v, Pushed w5.heap.size 53 (w5.alloc (.cells #[.map (some (w.heap.size + 1))] 53)) wx (.slice none 0 0) v 1 [.map (some (w.heap.size + 1))] → Calls Try.prog 49 #[.slice none 0 0, v] wx fun e w' => e = .returned (.map (some (w.heap.size + 1))) ∧ Below w.heap.size w w') := Lib.hid (fun wx v hp => by
    obtain ⟨g, cap, rfl⟩ := hp.some
    have hge : w5.heap.size + 1 ≤ g := by
      rcases hp.new g rfl with h | h
      · simp [Value.ownBlock] at h
      · simpa using h
    have hbx : Below w.heap.size w wx := (HB5.out.alloc (by rw [HL.out]; omega) _).grown hp.gr (by simp only [World.size_alloc]; rw [HL.out]; omega) (by intro k hk; simp [Value.ownBlock] at hk)
    refine (joined_one (ob := w.heap.size + 1) ?_ ?_ ?_).mono ?_
    · exact hp.own.cells rfl 0 _ rfl
    · exact hp.own.frozenAt 0
    · exact HI5.out.below (((Below.refl _ w5).alloc (Nat.le_refl _) _).grown hp.gr (by simp) (by intro k hk; simp [Value.ownBlock] at hk))
    · rintro e w' ⟨rfl, hk⟩
      exact ⟨rfl, hbx.trans (hk.toBelow hbx.size (by simp; have := HL.out; omega))⟩)
  unfold haltC
  clear hh hI5 hg5 hz5 hk5
  go_enter Try.func31, Try.ntmps31
  go_wp2_with fail
  refine wp_loop_rounds 2 ?_
  rw [rounds_succ]
  go_wp2_with fail
  rw [rounds_succ]
  go_wp2_with fail
  refine wp_loop_rounds 1 ?_
  rw [rounds_succ]
  go_wp2_with (first | (at_builtin; refine wpList_push rfl (.tmp 69) (.tmp 71) rfl Try.underlying99 hi hz0 hz1 hz2 (by decide) rfl (World.ownsRow_nil _ w5.heap.size 53 1) (a := ⟨w5.heap.size, 0, none⟩) (c := 1) (y := .map (some (w.heap.size + 1))) rfl (by simp) rfl (by unfold maxLen; omega) (by omega) (by simp) ?_; intro v9 w9 hp9) | (go_at_call 49; refine (HJ.out _ _ hp9).mono ?_; rintro e w10 ⟨rfl, hb10⟩))
  go_ret
  exact ⟨⟨_, rfl⟩, hb10⟩
end Go.Proofs.Ytimljadlfhccpaa
set_option linter.all false
namespace Go.Proofs.Ytimljadlfhccpaa
open Go.RowKit
set_option maxHeartbeats 4000000

theorem infoAt : (Try.prog.info? 76).map (fun i => (i.zero, i.size, i.bytes)) = some (some (.agg #[.bool false, .int .i64 0]), 2, 16) := by kernel_rfl
theorem cloneInts_nil (w : World) : Calls Try.prog 52 #[.slice none 0 0] w fun e w' => e = .returned (.slice none 0 0) ∧ w' = w := by
  have q22 : ∀ (w : World) (a : Option Addr) (n c n' c' : Nat), (binOp .eql 30 (.slice a n c) (.slice none n' c')).run Try.prog w = .ok (.bool a.isNone) w := fun w a n c n' c' => Lib.run_eql_slice_nil w _ _ a n c n' c' Try.underlying30
  go_enter Try.func52, Try.ntmps52
  go_wp2
  go_ret
  exact ⟨rfl, rfl⟩
set_option maxRecDepth 100000 in
theorem cloneAtom {ab : Nat} {w : World} (hh : HaltAt ab w) : Calls Try.prog 53 #[.slice (some ⟨ab, 0, none⟩) 1 1] w fun e w' => ∃ (g c : Nat), e = .returned (.slice (some ⟨g, 0, none⟩) 1 c) ∧ Below w.heap.size w w' ∧ w.heap.size ≤ g ∧ w'.cell? ⟨g, 0, none⟩ = some (.bool true) ∧ w'.cell? ⟨g, 1, none⟩ = some (.int .i64 0) ∧ 1 ≤ c := by
  obtain ⟨i0, hi, hz0, hz1, hz2⟩ := info_parts infoAt
  have h0 := hh.c0
  have h1 := hh.c1
  have t22 := Try.underlying31
  have q22 : ∀ (w : World) (a : Option Addr) (n c n' c' : Nat), (binOp .eql 31 (.slice a n c) (.slice none n' c')).run Try.prog w = .ok (.bool a.isNone) w := fun w a n c n' c' => Lib.run_eql_slice_nil w _ _ a n c n' c' t22
  have u22 : ∀ w, Sem.run Try.prog (underlying 31) w = .ok (TypeDesc.slice 76) w := run_underlying t22
  clear hh
  go_enter Try.func53, Try.ntmps53
  go_wp2_with (at_builtin; refine wpList_append_own _ rfl _ _ 31 rfl w.heap.size 76 i0 (.agg #[.bool false, .int .i64 0]) 2 16 t22 hi hz0 hz1 hz2 rfl (by decide) _ _ _ rfl (World.ownsRow_made w #[] 0 (Nat.le_refl _) (Nat.zero_le _) (by simp)) ⟨ab, 0, none⟩ 1 1 [.bool true, .int .i64 0] rfl ?qc1 ?qc2 ?qc3 ?qc4 ?qc5 ?qc6 ?_)
  case qc1 => rfl
  case qc2 =>
    intro j u hj
    match j, hj with
    | 0, hj => simp at hj; subst hj; exact Lib.cell?_alloc_some _ h0
    | 1, hj => simp at hj; subst hj; rw [Addr.add_lit]; exact Lib.cell?_alloc_some _ h1
    | n + 2, hj => simp at hj
  case qc3 => intro u hu; simp at hu; rcases hu with rfl | rfl <;> rfl
  case qc4 => unfold maxLen; omega
  case qc5 => omega
  case qc6 => simp
  intro v' w1 hown hgrow hnil
  go_wp2
  go_ret
  obtain ⟨_, hh | ⟨b', cap, cur, rfl, hB, hc', hn, _, hz, ht⟩⟩ := hown
  · simp at hh
  have hb : Below w.heap.size w w1 := ((Below.refl _ w).alloc (Nat.le_refl _) _).grown hgrow (by simp) (by intro k hk; simp [Value.ownBlock] at hk; omega)
  have hcur : ∀ j u, [Value.bool true, .int .i64 0][j]? = some u → w1.cell? ⟨b', j, none⟩ = some u := fun j u hj => by
    rw [cell_of_row w1 b' j cur _ (0, 0) hc']
    have hj2 : j < 2 := (List.getElem?_eq_some_iff.1 hj).1
    have ht' : cur.toList.take 2 = [Value.bool true, .int .i64 0] := by simpa using ht
    have h3 : (cur.toList.take 2)[j]? = some u := by rw [ht']; exact hj
    rw [List.getElem?_take, if_pos hj2] at h3
    simpa using h3
  exact ⟨b', cap, rfl, hb, hB, hcur 0 _ rfl, hcur 1 _ rfl, hn⟩
end Go.Proofs.Ytimljadlfhccpaa
set_option linter.all false
namespace Go.Proofs.Ytimljadlfhccpaa
open Go.RowKit
set_option maxHeartbeats 4000000
def termC (ab ac : Nat) : Value := .agg #[.int .i64 8, .int .i64 0, .int .i64 0, .bool false, .slice none 0 0, .slice (some ⟨ab, 0, none⟩) 1 ac, .slice none 0 0, .slice none 0 0]
set_option maxRecDepth 100000 in
theorem term_halt {mb ab ac : Nat} {w : World} {l : Int} (h0 : 0 < l) (h1 : l ≤ 65536) (c3 : w.cell? ⟨mb, 3, none⟩ = some (.int .i64 l)) (z3 : w.frozen? ⟨mb, 3, none⟩ = false) :
    Calls Try.prog 54 #[.pointer (some ⟨mb, 0, none⟩), termC ab ac] w fun e w' => e = .returned (termC ab ac) ∧ Kept [mb] w w' ∧ (∀ j, j ≠ 3 → w'.cell? ⟨mb, j, none⟩ = w.cell? ⟨mb, j, none⟩) ∧ ∀ j, w'.frozen? ⟨mb, j, none⟩ = w.frozen? ⟨mb, j, none⟩ := by
  have hlt : mb < w.heap.size := World.block_lt_of_cell? _ _ c3
  have hne0 : ¬ mb = w.heap.size := by omega
  have hne1 : ¬ mb = w.heap.size + 1 := by omega
  have hneg : ¬ (l - 1 < 0) := by omega
  unfold termC
  go_enter Try.func54, Try.ntmps54
  go_wp2_with fail
  refine bodyPost_ret (v := .agg #[.int .i64 8, .int .i64 0, .int .i64 0, .bool false, .slice none 0 0, .slice (some ⟨ab, 0, none⟩) 1 ac, .slice none 0 0, .slice none 0 0]) (by simp [results, Try.results54, go_sem, hne0, hne1]) rfl ?_
  refine ⟨rfl, (kept_setCell (by simp) w 3 _).trans ((Kept.below (below_box _ _)).trans (Kept.below (below_box _ _))), fun j hj => ?_, fun j => ?_⟩
  · rw [(below_box _ _).cell (p := ⟨mb, j, none⟩) (by simp; omega), (below_box _ _).cell (p := ⟨mb, j, none⟩) (by simp; omega)]
    simp [go_sem, hj]
  · rw [(below_box _ _).frozen (p := ⟨mb, j, none⟩) (by simp; omega), (below_box _ _).frozen (p := ⟨mb, j, none⟩) (by simp; omega)]
    simp [go_sem]
end Go.Proofs.Ytimljadlfhccpaa
