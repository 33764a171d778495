/- The parse layers in the plain machine: functions that are known by their answers. -/
import Derived.Test.YtgmapdcdmomioaaGreatDoorPbU
import Derived.Test.YtgmapdcdmomioaaGreatDoorPbV
import Derived.Test.YtgmapdcdmomioaaGreatDoorPbN
import Derived.Test.YtgmapdcdmomioaaGreatDoorPbW
set_option linter.all false
set_option linter.all false
set_option autoImplicit false
set_option maxRecDepth 100000
namespace Go.Proofs.YtgmapdcdmomioaaGreatDoor.Pa
open Go Go.RowKit Go.Proofs.YtgmapdcdmomioaaGreatDoor.Am
/-- What lex.number answers. -/
def numOut : Option Int → Out
  | some n => .val (.tuple [.d (.agg [.int .i64 4, .str [], .int .i64 n, .int .i64 0]), .d (.int .i64 0)])
  | none => .val (.tuple [.d (.agg [.int .i64 0, .str [], .int .i64 0, .int .i64 0]), .d (.int .i64 110)])
def numSays : List Dat → Glob → Option (Out × Glob)
  | [.str s], g => if s.length ≤ 281474976710656 then some (numOut (numTok s), g) else none
  | _, _ => none
theorem rep_tok (E : Em) (w : World) (k n : Int) : Rep E w (.agg [.int .i64 k, .str [], .int .i64 n, .int .i64 0]) (tokVal k ⟨#[]⟩ n) := by
  refine .agg _ [.int .i64 k, .string ⟨#[]⟩, .int .i64 n, .int .i64 0] rfl (fun d hd => ?_) (fun j d v hd hv => ?_)
  · simp only [List.mem_cons, List.not_mem_nil, or_false] at hd
    rcases hd with rfl | rfl | rfl | rfl <;> rfl
  · match j, hd, hv with
    | 0, hd, hv => cases hd; cases hv; exact .int _ _
    | 1, hd, hv => cases hd; cases hv; exact .str []
    | 2, hd, hv => cases hd; cases hv; exact .int _ _
    | 3, hd, hv => cases hd; cases hv; exact .int _ _
theorem rep_num (E : Em) (w : World) (B : Nat) (o : Option Int) : OutRep E w B (numOut o) (.returned (numVal o)) := by
  have key : ∀ k n e : Int, RepO E w B (.tuple [.d (.agg [.int .i64 k, .str [], .int .i64 n, .int .i64 0]), .d (.int .i64 e)]) (.tuple #[tokVal k ⟨#[]⟩ n, .int .i64 e]) := fun k n e =>
    ⟨[tokVal k ⟨#[]⟩ n, .int .i64 e], rfl, rfl, fun j x y hx hy => by
      match j, hx, hy with
      | 0, hx, hy => cases hx; cases hy; exact rep_tok E w k n
      | 1, hx, hy => cases hx; cases hy; exact .int _ _⟩
  cases o with
  | none => exact ⟨_, rfl, key 0 0 110⟩
  | some n => exact ⟨_, rfl, key 4 n 0⟩
theorem numSays_inv {ds : List Dat} {g : Glob} {r : Out × Glob} (h : numSays ds g = some r) : ∃ s, ds = [.str s] ∧ s.length ≤ 281474976710656 ∧ r = (numOut (numTok s), g) := by
  match ds, h with
  | [.str s], h =>
    simp only [numSays] at h
    split at h
    · rename_i hl
      cases h
      exact ⟨s, rfl, hl, rfl⟩
    · cases h
theorem numSays_ok {w0 : World} (h0 : ErrsIn w0) : ∀ ds g out g', numSays ds g = some (out, g') → Am.Enters Tryz.prog 169 ∧ ∀ E w vs, Based w0 E w → GRel E w g → GlobOnly E → ReL E w ds vs → Calls Tryz.prog 169 vs.toArray w (Post E w g out g') := by
  intro ds g out g' hs
  obtain ⟨s, rfl, hl, he⟩ := numSays_inv hs
  cases he
  refine ⟨⟨Tryz.f169, Tryz.func169, by kernel_rfl, by kernel_rfl⟩, fun E w vs hb hg ho hr => ?_⟩
  obtain ⟨v0, rfl⟩ : ∃ v0, vs = [v0] := by
    match vs, hr.1 with
    | [v0], _ => exact ⟨v0, rfl⟩
  have h := hr.2 0 _ _ rfl rfl
  cases h
  have hw : ErrsIn w := by
    obtain ⟨⟨e0, c0, k0⟩, e1, c1, k1⟩ := h0
    exact ⟨⟨e0, (hb.1.cell (Lib.lt_of_cell c0)).trans c0, k0⟩, e1, (hb.1.cell (Lib.lt_of_cell c1)).trans c1, k1⟩
  refine (number_calls ⟨s.toArray⟩ (by simpa [ByteArray.size] using hl) w hw).mono fun e w' ⟨he, hb'⟩ => ?_
  subst he
  exact ⟨E, up_below hg hb', hg.below hb', ho, rep_num E w' _ _⟩
/-- Functions that are known by what they answer. -/
def exts (f : FuncId) : Option (List Dat → Glob → Option (Out × Glob)) := bif Nat.beq f 15 then some saysTrue else bif Nat.beq f 28 then some saysTrue else bif Nat.beq f 157 then some cloneSays else bif Nat.beq f 169 then some numSays else none
noncomputable def TT : Tb := { T0 with ext := exts }
theorem tund (t : TypeId) : TT.und t = Tryz.prog.underlying t := rfl
theorem okTT : TT.Ok Tryz.prog := withExt_ok okT0
theorem extTT {w0 : World} (h0 : ErrsIn w0) : ExtOk Tryz.prog (Based w0) TT := fun f s h => by
  have h' : exts f = some s := h
  unfold exts at h'
  cases hf : Nat.beq f 15 with
  | true =>
    rw [hf] at h'
    cases h'
    obtain rfl := Nat.eq_of_beq_eq_true hf
    exact saysTrue_ok ⟨Tryz.f15, Tryz.func15, by kernel_rfl, by kernel_rfl⟩ wakes12
  | false =>
    rw [hf] at h'
    cases hf1 : Nat.beq f 28 with
    | true =>
      rw [hf1] at h'
      cases h'
      obtain rfl := Nat.eq_of_beq_eq_true hf1
      exact saysTrue_ok ⟨Tryz.f28, Tryz.func28, by kernel_rfl, by kernel_rfl⟩ wakes14
    | false =>
    rw [hf1] at h'
    cases hf3 : Nat.beq f 157 with
    | true =>
      rw [hf3] at h'
      cases h'
      obtain rfl := Nat.eq_of_beq_eq_true hf3
      exact cloneSays_ok
    | false =>
    rw [hf3] at h'
    cases hf2 : Nat.beq f 169 with
    | false => rw [hf2] at h'; cases h'
    | true =>
      rw [hf2] at h'
      cases h'
      obtain rfl := Nat.eq_of_beq_eq_true hf2
      exact numSays_ok h0
theorem number_ok (s : List UInt8) (hs : s.length ≤ 281474976710656) (g : Glob) (Qf : Out → Glob → Prop) (hQ : Qf (numOut (numTok s)) g) : EvF TT 169 [.str s] g Qf :=
  ⟨_, _, hQ, 1, fun m hm => by
    obtain ⟨k, rfl⟩ : ∃ k, m = k + 1 := ⟨m - 1, by omega⟩
    show (if s.length ≤ 281474976710656 then some (numOut (numTok s), g) else none) = _
    rw [if_pos hs]⟩
theorem clone_raw {x : Dat} {r : Out} (g : Glob) (h : cloneSays [x] g = some (r, g)) (Qf : Out → Glob → Prop) (hQ : Qf r g) : EvF TT 157 [x] g Qf :=
  ⟨_, _, hQ, 1, fun m hm => by obtain ⟨k, rfl⟩ : ∃ k, m = k + 1 := ⟨m - 1, by omega⟩; exact h⟩
theorem wakes14_ok (g : Glob) (Qf : Out → Glob → Prop) (hQ : Qf (.val (.d (.bool true))) g) : EvF TT 28 [] g Qf :=
  ⟨_, _, hQ, 1, fun m hm => by obtain ⟨k, rfl⟩ : ∃ k, m = k + 1 := ⟨m - 1, by omega⟩; rfl⟩
theorem wakes_ok (g : Glob) (Qf : Out → Glob → Prop) (hQ : Qf (.val (.d (.bool true))) g) : EvF TT 15 [] g Qf :=
  ⟨_, _, hQ, 1, fun m hm => by obtain ⟨k, rfl⟩ : ∃ k, m = k + 1 := ⟨m - 1, by omega⟩; rfl⟩
/-- How functions' slices come back. -/
def rk : FuncId → RK := fun _ => .rd
end Go.Proofs.YtgmapdcdmomioaaGreatDoor.Pa
