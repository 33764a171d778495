/- What lex.number answers, from any memory that has the library's two errors. -/
import Derived.Test.YtgmapdcdmomioaaGreatDoorPbS
import Derived.WalkKit
import Derived.BigCall
import Derived.Handy
set_option linter.all false
set_option linter.all false
set_option autoImplicit false
namespace Go.Proofs.YtgmapdcdmomioaaGreatDoor.Pa
open Go Go.RowKit
abbrev isErr (ev : Value) : Prop := ev = .nilIface ∨ ∃ te pe, ev = .iface te pe
/-- The library's two errors lie in memory. -/
def ErrsIn (w : World) : Prop := (∃ ev, w.cell? ⟨1, 0, none⟩ = some ev ∧ isErr ev) ∧ (∃ ev, w.cell? ⟨2, 0, none⟩ = some ev ∧ isErr ev)
/-- A number: its sign, its digits. -/
def numDig (s : List UInt8) : List UInt8 := Lib.trimPrefix s [126]
def numOf (B : Bool) (D : List UInt8) : Option Int :=
  match Lib.atoiAll D with
  | .ok v =>
    let n := if B then IntKind.i64.wrap (0 - v) else v
    if (1 < D.length ∧ D.head? = some 48) ∨ ¬ (-1073741824 ≤ n ∧ n < 1073741824) then none else some n
  | _ => none
def numTok (s : List UInt8) : Option Int := numOf (Lib.hasPrefix s [126]) (numDig s)
def tokVal (k : Int) (s : ByteArray) (n : Int) : Value := .agg #[.int .i64 k, .string s, .int .i64 n, .int .i64 0]
def numVal : Option Int → Value
  | some n => .tuple #[tokVal 4 ⟨#[]⟩ n, .int .i64 0]
  | none => .tuple #[tokVal 0 ⟨#[]⟩ 0, .int .i64 110]
/-- The result's box behind a call. -/
theorem boxIn {w W1 : World} {v0 v1 v2 v3 : Value} {t : TypeId} (hb : Below (w.alloc (.cells #[v0, v1, v2, v3] t (0, 0))).heap.size (w.alloc (.cells #[v0, v1, v2, v3] t (0, 0))) W1) :
    Below w.heap.size w W1 ∧ W1.cell? ⟨w.heap.size, 0, none⟩ = some v0 ∧ W1.cell? ⟨w.heap.size, 1, none⟩ = some v1 ∧ W1.cell? ⟨w.heap.size, 2, none⟩ = some v2 ∧ W1.cell? ⟨w.heap.size, 3, none⟩ = some v3 ∧
      W1.frozen? ⟨w.heap.size, 0, none⟩ = false ∧ W1.frozen? ⟨w.heap.size, 1, none⟩ = false ∧ W1.frozen? ⟨w.heap.size, 2, none⟩ = false ∧ W1.frozen? ⟨w.heap.size, 3, none⟩ = false := by
  have hs : (w.alloc (.cells #[v0, v1, v2, v3] t (0, 0))).heap.size = w.heap.size + 1 := Array.size_push ..
  have hl : ∀ o, (⟨w.heap.size, o, none⟩ : Addr).block < (w.alloc (.cells #[v0, v1, v2, v3] t (0, 0))).heap.size := fun o => by rw [hs]; exact Nat.lt_succ_self _
  refine ⟨((Below.refl w.heap.size w).alloc (Nat.le_refl _) _).trans (hb.mono (by rw [hs]; exact Nat.le_succ _)), ?_, ?_, ?_, ?_, ?_, ?_, ?_, ?_⟩
  · rw [hb.cell (hl 0)]; go_simp
  · rw [hb.cell (hl 1)]; go_simp
  · rw [hb.cell (hl 2)]; go_simp
  · rw [hb.cell (hl 3)]; go_simp
  · rw [hb.frozen (hl 0)]; go_simp
  · rw [hb.frozen (hl 1)]; go_simp
  · rw [hb.frozen (hl 2)]; go_simp
  · rw [hb.frozen (hl 3)]; go_simp
set_option maxRecDepth 100000 in
set_option maxHeartbeats 4000000 in
theorem number_calls (s : ByteArray) (hs : s.size ≤ 281474976710656) (w : World) (hw : ErrsIn w) :
    Calls Tryz.prog 169 #[.string s] w fun e w' => e = .returned (numVal (numTok s.data.toList)) ∧ Below w.heap.size w w' := by
  obtain ⟨⟨ev0, hv0, he0⟩, ev1, hv1, he1⟩ := hw
  have hdl : (⟨(numDig s.data.toList).toArray⟩ : ByteArray).size ≤ 281474976710656 := by
    have := Lib.trimPrefix_le s.data.toList [126]
    have h2 : (⟨(numDig s.data.toList).toArray⟩ : ByteArray).size = (numDig s.data.toList).length := by simp [ByteArray.size]
    rw [h2]
    have h3 := Lib.size_eq s
    unfold numDig
    omega
  have hdt : (⟨(numDig s.data.toList).toArray⟩ : ByteArray).data.toList = numDig s.data.toList := rfl
  have cut : ∀ W : World, Calls Tryz.prog 209 #[.string s, .string ⟨#[126]⟩] W fun e w' => e = .returned (.tuple #[.string ⟨(numDig s.data.toList).toArray⟩, .bool (Lib.hasPrefix s.data.toList [126])]) ∧ w' = W := fun W => Tryz.strings_CutPrefix s ⟨#[126]⟩ W
  unfold numTok
  generalize hD : numDig s.data.toList = D at hdl cut hdt ⊢
  generalize hB : Lib.hasPrefix s.data.toList [126] = B at cut ⊢
  have keep : ∀ {W : World} {b : Nat} {ev : Value}, Below w.heap.size w W → w.cell? ⟨b, 0, none⟩ = some ev → W.cell? ⟨b, 0, none⟩ = some ev := fun hb hv => (hb.cell (Lib.lt_of_cell hv)).trans hv
  generalize hX : numVal (numOf B D) = X
  unfold numOf at hX
  cases h : Lib.atoiAll D with
  | range =>
    have atoi : ∀ W, Below w.heap.size w W → Calls Tryz.prog 210 #[.string ⟨D.toArray⟩] W fun e w' => ∃ N, e = .returned (.tuple #[.int .i64 (Lib.atoiSat D), .iface 217 (.pointer (some ⟨N, 0, none⟩))]) ∧ Below W.heap.size W w' := fun W hW =>
      (Tryz.strconv_Atoi_range ⟨D.toArray⟩ hdl h ev1 W (keep hW hv1) he1).mono fun e w' ⟨N, h1, _, _, h2⟩ => ⟨N, h1, h2⟩
    cases B
    all_goals
      go_enter Tryz.func169, Tryz.ntmps169
      go_wp2_with (first | (go_at_call 209; refine (cut _).mono ?_; rintro e w' ⟨rfl, rfl⟩) | (go_at_call 210; refine (atoi _ ((Below.refl _ _).alloc (Nat.le_refl _) _)).mono ?_; rintro e W1 ⟨N, rfl, hb⟩; obtain ⟨hb0, c0, c1, c2, c3, f0, f1, f2, f3⟩ := boxIn hb; clear hb) | go_in)
      refine bodyPost_ret (by simp [results, Tryz.results169, go_sem, c0, c1, c2, c3]; try rfl) rfl ?_
      exact ⟨by rw [← hX, h]; rfl, (((hb0.setCell (Nat.le_refl _) _).setCell (Nat.le_refl _) _).setCell (Nat.le_refl _) _).setCell (Nat.le_refl _) _⟩
  | ok v =>
    have atoi : ∀ W, Below w.heap.size w W → Calls Tryz.prog 210 #[.string ⟨D.toArray⟩] W fun e w' => ∃ N : Nat, e = .returned (.tuple #[.int .i64 v, .nilIface]) ∧ Below W.heap.size W w' := fun W hW =>
      (Tryz.strconv_Atoi_ok ⟨D.toArray⟩ (by omega) v h W).mono fun e w' ⟨h1, h2⟩ => ⟨0, h1, by
        rcases h2 with rfl | ⟨t, rfl⟩
        · exact Below.refl _ _
        · exact Lib.bytesWorld_below _ _ _⟩
    cases D with
    | nil => cases h
    | cons c r =>
    have hw : IntKind.i64.wrap (0 - v) = wrap64 (-v) := by rw [Int.zero_sub]; exact Go.IntWalk.i64_left _
    have e0 : ∀ h, (⟨(c :: r).toArray⟩ : ByteArray)[0]'h = c := fun _ => rfl
    have e48 : c = 48 ↔ (c.toNat : Int) = 48 := ⟨fun e => by rw [e]; rfl, fun e => UInt8.toNat_inj.1 (show c.toNat = 48 by omega)⟩
    cases B
    all_goals
      go_enter Tryz.func169, Tryz.ntmps169
      go_wp2_with (first | (go_at_call 209; refine (cut _).mono ?_; rintro e w' ⟨rfl, rfl⟩) | (go_at_call 210; refine (atoi _ ((Below.refl _ _).alloc (Nat.le_refl _) _)).mono ?_; rintro e W1 ⟨N, rfl, hb⟩; obtain ⟨hb0, c0, c1, c2, c3, f0, f1, f2, f3⟩ := boxIn hb; clear hb) | go_in)
      all_goals refine bodyPost_ret (by simp [results, Tryz.results169, go_sem, c0, c1, c2, c3]; try rfl) rfl ?_
      all_goals refine ⟨?_, (((hb0.setCell (Nat.le_refl _) _).setCell (Nat.le_refl _) _).setCell (Nat.le_refl _) _).setCell (Nat.le_refl _) _⟩
      all_goals rw [← hX, h]
      all_goals clear hX atoi cut keep hb0 c0 c1 c2 c3 f0 f1 f2 f3 hdl
      all_goals try simp only [e0] at *
      all_goals try simp only [Bool.not_eq_true', decide_eq_false_iff_not, Bool.not_eq_false', decide_eq_true_eq, beq_iff_eq, beq_eq_false_iff_ne, ne_eq] at *
      all_goals simp only [List.length_cons, List.head?_cons, Option.some.injEq, Bool.false_eq_true, if_true, if_false, e48, hw]
      all_goals first
        | (rw [if_pos (by omega)]; rfl)
        | (rw [if_neg (by omega)]; rfl)
  | _ =>
    have atoi : ∀ W, Below w.heap.size w W → Calls Tryz.prog 210 #[.string ⟨D.toArray⟩] W fun e w' => ∃ N, e = .returned (.tuple #[.int .i64 0, .iface 217 (.pointer (some ⟨N, 0, none⟩))]) ∧ Below W.heap.size W w' := fun W hW =>
      (Tryz.strconv_Atoi_syntax ⟨D.toArray⟩ hdl h ev0 W (keep hW hv0) he0).mono fun e w' ⟨N, h1, _, _, h2⟩ => ⟨N, h1, h2⟩
    cases B
    all_goals
      go_enter Tryz.func169, Tryz.ntmps169
      go_wp2_with (first | (go_at_call 209; refine (cut _).mono ?_; rintro e w' ⟨rfl, rfl⟩) | (go_at_call 210; refine (atoi _ ((Below.refl _ _).alloc (Nat.le_refl _) _)).mono ?_; rintro e W1 ⟨N, rfl, hb⟩; obtain ⟨hb0, c0, c1, c2, c3, f0, f1, f2, f3⟩ := boxIn hb; clear hb) | go_in)
      refine bodyPost_ret (by simp [results, Tryz.results169, go_sem, c0, c1, c2, c3]; try rfl) rfl ?_
      exact ⟨by rw [← hX, h]; rfl, (((hb0.setCell (Nat.le_refl _) _).setCell (Nat.le_refl _) _).setCell (Nat.le_refl _) _).setCell (Nat.le_refl _) _⟩
end Go.Proofs.YtgmapdcdmomioaaGreatDoor.Pa
