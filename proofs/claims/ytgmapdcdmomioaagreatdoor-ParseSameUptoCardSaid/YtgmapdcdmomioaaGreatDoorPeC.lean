/- Proved: the law ParseSame answers true for every two programs of bulk at most 1048576 together, and its arguments read afterwards as before (the given statement ParseSameUptoSaid, and its tied card). -/
import Derived.Test.YtgmapdcdmomioaaGreatDoorPeA
import Derived.Test.YtgmapdcdmomioaaGreatDoorPeB
import Derived.Test.YtgmapdcdmomioaaGreatDoorCards
import Derived.Test.YtgmapdcdmomioaaGreatDoorTie
import Derived.LaidMore
import Derived.Carry
import Derived.Deep.DeepHandedRow
import Derived.Deep.DeepWitnessRef
set_option linter.all false
set_option linter.all false
set_option autoImplicit false
namespace Go.Proofs.YtgmapdcdmomioaaGreatDoor.Pa
open Go Go.Proofs.YtgmapdcdmomioaaGreatDoor.Am Go.ChangeShapes Go.WideShapes Go.ChangeAt Go.RowKit
set_option maxRecDepth 100000
theorem ownTT : ownKnob Tryz.prog.godebug = none := by kernel_rfl
theorem laidOut : laidOutB Tryz.prog = true := by kernel_rfl
def progTypes : List TypeId := [29, 23, 76, 9, 61, 74, 91, 89, 94, 3, 27, 24, 25, 127]
theorem goodsProg : goods progTypes = true := by kernel_rfl
theorem aggProg : isAgg? (TT.und 29) = true := by kernel_rfl
theorem open_agg {W : World} {t : TypeId} {cs : Array Value} (ha : isAgg? (TT.und t) = true) (h : Opened W t cs.toList) : ∃ d, HasTy TT t d ∧ Rep (startE W.heap.size) W d (.agg cs) := by
  obtain ⟨ds, tys, hl, ht, h1, hr⟩ := h
  obtain ⟨k1, k2⟩ := of_cellsTy ht
  refine ⟨.agg ds, .agg _ tys ds ha hl k1 h1 k2, ?_⟩
  have := Rep.agg (E := startE W.heap.size) (w := W) ds cs.toList hr.1 h1 hr.2
  simpa using this
theorem open_prog {H : Type} {enc : TypeId × Value → H} {W : World} {v : Value} {d : DataW H} {p : List MemPlace} (hv : Value.okWide Tryz.prog W .any 0 29 v ∨ ∃ base, Value.okWide Tryz.prog W .any base 29 v)
    (h : DataW.Trod enc Tryz.prog W 0 (fun _ => true) true 29 v d p) (hb : Rows.uptoBulk d ≤ 1048576) : ∃ a, HasTy TT 29 a ∧ Rep (startE W.heap.size) W a v := by
  obtain ⟨cs, rfl, _⟩ : ∃ cs, v = .agg cs ∧ cs.size = Tryz.prog.cellsOf 29 := by
    rcases hv with hv | ⟨b, hv⟩
    · exact okWide_struct Tryz.underlying29 hv
    · exact okWide_struct Tryz.underlying29 hv
  obtain ⟨k, f⟩ := h
  exact open_agg aggProg (open_ty goodsProg 1048576 (by omega) _ List.mem_cons_self k _ _ f hb)
theorem same_contract (H : Type) (enc : TypeId × Value → H) (F : Stop.Interp) (W : World) (base : Nat) (args : Array Value) (ds gs : List (DataW H)) (before : List MemPlace)
    (hval : ∀ (j : Nat) t v, Tryz.f6.params[j]? = some t → args[j]? = some v → Value.okWide Tryz.prog W .any base t v)
    (hW : DataW.Whole enc Tryz.prog Tryz.f6.params.toList Rows.parseSameSpec.vars false W args.toList ds gs before) (hk : Rows.uptoSmall H (ds ++ gs) = true) :
    Calls Tryz.prog 6 args W fun e W' => ∃ v, e = .returned v ∧ ((Rows.OpenSpec.upto Rows.parseSameSpec).at F).post enc Tryz.prog Tryz.f6 false true false false W args v W' := by
  have hW' := hW
  obtain ⟨p, q, hA0, hV, rfl, hfz, hnd⟩ := hW
  have hA : DataW.TrodAll enc Tryz.prog W 0 (fun _ => true) true Tryz.f6.params.toList args.toList ds p := hA0
  rw [Tryz.params6] at hA hval
  obtain ⟨v0, vs0, d0, ds0, p0, q0, hargs, rfl, rfl, h0, r0⟩ := trodAll_cons hA
  obtain ⟨v1, vs1, d1, ds1, p1, q1, rfl, rfl, rfl, h1, r1⟩ := trodAll_cons r0
  obtain ⟨rfl, rfl, rfl⟩ := trodAll_nil r1
  obtain rfl : args = #[v0, v1] := by cases args; simp_all
  obtain ⟨rfl, rfl⟩ := trodVars_none hV
  have hb : Rows.uptoBulkAll ([d0, d1] ++ ([] : List (DataW H))) ≤ 1048576 := of_decide_eq_true hk
  simp only [List.append_nil, Rows.uptoBulkAll] at hb
  have hlt : ∀ x ∈ p0 ++ (p1 ++ []), x.block < W.heap.size := fun x hx => by simpa using hW'.lt x (by simpa using hx)
  have hback : ∀ (W' : World), Below W.heap.size W W' → DataW.TrodAll enc Tryz.prog W' 0 (fun b => decide (b < W.heap.size)) true [29, 29] [v0, v1] [d0, d1] (p0 ++ (p1 ++ [])) := fun W' hn =>
    trodAll_cons_mk (Below.trod laidOut (by kernel_rfl) (of_decide_eq_true (by kernel_rfl)) h0 hn (fun x hx => hlt x (by simp [hx]))) (trodAll_cons_mk (Below.trod laidOut (by kernel_rfl) (of_decide_eq_true (by kernel_rfl)) h1 hn (fun x hx => hlt x (by simp [hx]))) trodAll_mk0)
  obtain ⟨a, ha, ra⟩ := open_prog (.inr ⟨_, hval 0 29 v0 rfl rfl⟩) h0 (by omega)
  obtain ⟨b, hb', rb⟩ := open_prog (.inr ⟨_, hval 1 29 v1 rfl rfl⟩) h1 (by omega)
  obtain ⟨out, g', ho, n, hn⟩ := parseSameLaw a b ⟨[], []⟩ ha hb' (fun out _ => out = .val (.d (.bool true))) rfl
  subst ho
  have hd : ReL (startE W.heap.size) W [a, b] [v0, v1] := ⟨rfl, fun j d v hd hv => by
    match j, hd, hv with
    | 0, hd, hv => cases hd; cases hv; exact ra
    | 1, hd, hv => cases hd; cases hv; exact rb⟩
  refine (start_calls okTT extTT (hn n (Nat.le_refl _)) hd).mono fun e W' ⟨hn, E', _, hr⟩ => ?_
  obtain ⟨u, rfl, hu⟩ := hr
  cases hu
  refine ⟨_, rfl, _, _, _, [], _, [], hW', ?_, hback _ hn, rfl, hn.frame _, fun h => by cases h⟩
  exact trodAll_mk1 (shut_bool Tryz.underlying4 _)
/-- The door's own heap meets the condition. -/
theorem door_met (os : Os) (args : Array Value) : laidMetH Tryz.prog Rows.parseSameUptoRow.laid ((World.doorLaid Tryz.prog 62 os).forCall (fun _ _ => 0) ⟨#[], args, []⟩).memory :=
  laidMetH_of_parts3 (fuel := 8) (laidMet_of_run' 8 (by kernel_rfl) (by kernel_rfl)) (by kernel_rfl) (by kernel_rfl)
def zeroProg : Value := .agg #[.slice none 0 0, .int .i64 0, .string ⟨#[]⟩, .string ⟨#[]⟩, .int .i64 0, .slice none 0 0, .slice none 0 0, .int .i64 0]
def zeroProgD (H : Type) : DataW H := .agg [.nil, .agg [.lit (.int .i64 0), .lit (.string []), .lit (.string []), .lit (.int .i64 0), .nil, .nil, .lit (.int .i64 0)]]
theorem same_witness (os : Os) (H : Type) (enc : TypeId × Value → H) : ∃ (w : World) (tape : Tape) (i : Input), w.os = os ∧ (w.forCall tape i).Shaped Tryz.checked.prog ∧ i.vars = [] ∧ Input.okWide Tryz.checked.prog (w.forCall tape i) .any w.heap.size 6 i ∧
      (Rows.OpenSpec.upto Rows.parseSameSpec).preRow enc Tryz.checked.prog Tryz.f6 Rows.parseSameUptoRow.domain false Rows.parseSameUptoRow.laid (w.forCall tape i).memory i.args ∧ ({ modest := false } : Assume).holds Tryz.checked.prog (lone (Frame.enter Tryz.checked.prog 6 i.args .normal) [] (w.forCall tape i)) := by
  obtain ⟨w, tape, i, h1, h2, h3, h4, h5, h6, _⟩ := OpenSpec.witness_stopped_atRef (enc := enc) (C := Tryz.checked) (fn := Tryz.f6) (s := Rows.OpenSpec.upto Rows.parseSameSpec) (conds := Rows.parseSameUptoRow.domain) (apart := false) (laid := Rows.parseSameUptoRow.laid) (f := 6) false
    (World.doorLaid Tryz.prog 62 os) #[zeroProg, zeroProg] rfl (by kernel_rfl) (by kernel_rfl) (by kernel_rfl)
    (OpenSpec.preRow_of_cond 8 (x := ([zeroProgD H, zeroProgD H], [], [])) (by kernel_rfl) (by kernel_rfl) (fun k hk => by cases hk; kernel_rfl) (by kernel_rfl) (door_met os _)) (fun _ _ _ => 0)
  exact ⟨w, tape, i, h1, h2, h3, h4, h5, h6⟩
theorem same_lifted (os : Os) (started : os.Started) (H : Type) (enc : TypeId × Value → H) (F : Stop.Interp) :
    ReturnsInHanded {} Tryz.checked os 6 .any ((Rows.OpenSpec.upto Rows.parseSameSpec).preRow enc Tryz.prog Tryz.f6 Rows.parseSameUptoRow.domain false Rows.parseSameUptoRow.laid) (((Rows.OpenSpec.upto Rows.parseSameSpec).at F).post enc Tryz.prog Tryz.f6 false true false false) := by
  refine returnsInHanded_of_row (C := Tryz.checked) (s := Rows.OpenSpec.upto Rows.parseSameSpec) ownTT started (by kernel_rfl) Tryz.func6 (same_witness os H enc) ?_
  intro W base args ds gs before hval hW _ hk _ _ _ _
  exact same_contract H enc F W base args ds gs before hval hW (hk _ rfl)
end Go.Proofs.YtgmapdcdmomioaaGreatDoor.Pa
