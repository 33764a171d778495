/- Proved: the law ScopeParts answers true for all arguments of bulk at most 1048576 together, and they read afterwards as before (towards the given statement ScopePartsUptoSaid). -/
import Derived.Test.YtgmapdcdmomioaaGreatDoorRE
import Derived.Test.YtgmapdcdmomioaaGreatDoorUA
import Derived.Test.YtgmapdcdmomioaaGreatDoorCards
set_option linter.all false
set_option autoImplicit false
set_option maxRecDepth 100000
namespace Go.Proofs.YtgmapdcdmomioaaGreatDoor.Pa
open Go Go.Proofs.YtgmapdcdmomioaaGreatDoor.Am Go.ChangeShapes Go.WideShapes Go.ChangeAt Go.RowKit
theorem scopeParts_contract (H : Type) (enc : TypeId × Value → H) (F : Stop.Interp) (W : World) (base : Nat) (args : Array Value) (ds gs : List (DataW H)) (before : List MemPlace)
    (hval : ∀ (j : Nat) t v, Tryz.f14.params[j]? = some t → args[j]? = some v → Value.okWide Tryz.prog W .any base t v)
    (hW : DataW.Whole enc Tryz.prog Tryz.f14.params.toList Rows.scopePartsSpec.vars false W args.toList ds gs before) (hk : Rows.uptoSmall H (ds ++ gs) = true) (hlaid : ErrsIn W) :
    Calls Tryz.prog 14 args W fun e W' => ∃ v, e = .returned v ∧ ((Rows.OpenSpec.upto Rows.scopePartsSpec).at F).post enc Tryz.prog Tryz.f14 false true false false W args v W' := by
  have hW' := hW
  obtain ⟨p, q, hA0, hV, rfl, hfz, hnd⟩ := hW
  have hA : DataW.TrodAll enc Tryz.prog W 0 (fun _ => true) true Tryz.f14.params.toList args.toList ds p := hA0
  rw [Tryz.params14] at hA hval
  obtain ⟨v0, vs0, d0, ds0, p0, q0, hargs, rfl, rfl, h0, r0⟩ := trodAll_cons hA
  obtain ⟨v1, vs1, d1, ds1, p1, q1, rfl, rfl, rfl, h1, r1⟩ := trodAll_cons r0
  obtain ⟨v2, vs2, d2, ds2, p2, q2, rfl, rfl, rfl, h2, r2⟩ := trodAll_cons r1
  obtain ⟨rfl, rfl, rfl⟩ := trodAll_nil r2
  obtain rfl : args = #[v0, v1, v2] := by cases args; simp_all
  obtain ⟨rfl, rfl⟩ := trodVars_none hV
  have hb : Rows.uptoBulkAll ([d0, d1, d2] ++ ([] : List (DataW H))) ≤ 1048576 := of_decide_eq_true hk
  simp only [List.append_nil, Rows.uptoBulkAll] at hb
  have hlt : ∀ x ∈ p0 ++ (p1 ++ (p2 ++ [])), x.block < W.heap.size := fun x hx => by simpa using hW'.lt x (by simpa using hx)
  have hback : ∀ (W' : World), Below W.heap.size W W' → DataW.TrodAll enc Tryz.prog W' 0 (fun b => decide (b < W.heap.size)) true [27, 27, 9] [v0, v1, v2] [d0, d1, d2] (p0 ++ (p1 ++ (p2 ++ []))) := fun W' hn =>
    trodAll_cons_mk (Below.trod laidOut (by kernel_rfl) (of_decide_eq_true (by kernel_rfl)) h0 hn (fun x hx => hlt x (by simp [hx]))) (trodAll_cons_mk (Below.trod laidOut (by kernel_rfl) (of_decide_eq_true (by kernel_rfl)) h1 hn (fun x hx => hlt x (by simp [hx]))) (trodAll_cons_mk (Below.trod laidOut (by kernel_rfl) (of_decide_eq_true (by kernel_rfl)) h2 hn (fun x hx => hlt x (by simp [hx]))) trodAll_mk0))
  obtain ⟨a0, ha0, ra0, sb0⟩ := open_expr ⟨_, hval 0 27 v0 rfl rfl⟩ h0 (by omega)
  obtain ⟨a1, ha1, ra1, sb1⟩ := open_expr ⟨_, hval 1 27 v1 rfl rfl⟩ h1 (by omega)
  obtain ⟨a2, ha2, ra2, sb2⟩ := open_str ⟨_, hval 2 9 v2 rfl rfl⟩ h2 (by omega)
  obtain ⟨out, g', ho, n, hn⟩ := scopePartsLaw a0 a1 a2 ⟨[], []⟩ ha0 ha1 ha2 sb0 sb1 sb2 (fun out _ => out = .val (.d (.bool true))) (fun _ => rfl)
  subst ho
  have hd : ReL (startE W.heap.size) W [a0, a1, a2] [v0, v1, v2] := ⟨rfl, fun j d v hd hv => by
    match j, hd, hv with
    | 0, hd, hv => cases hd; cases hv; exact ra0
    | 1, hd, hv => cases hd; cases hv; exact ra1
    | 2, hd, hv => cases hd; cases hv; exact ra2⟩
  refine (start_calls (based_ok W) okTT (extTT hlaid) (hn n (Nat.le_refl _)) (based_start W) hd).mono fun e W' ⟨hn, E', _, hr⟩ => ?_
  obtain ⟨u, rfl, hu⟩ := hr
  cases hu
  refine ⟨_, rfl, _, _, _, [], _, [], hW', ?_, hback _ hn, rfl, hn.frame _, fun h => by cases h⟩
  exact trodAll_mk1 (shut_bool Tryz.underlying4 _)
theorem scopeParts_met (os : Os) (args : Array Value) : laidMetH Tryz.prog Rows.scopePartsUptoRow.laid ((World.doorLaid Tryz.prog 62 os).forCall (fun _ _ => 0) ⟨#[], args, []⟩).memory :=
  laidMetH_of_parts3 (fuel := 8) (laidMet_of_run' 8 (by kernel_rfl) (by kernel_rfl)) (by kernel_rfl) (by kernel_rfl)
theorem scopeParts_witness (os : Os) (H : Type) (enc : TypeId × Value → H) : ∃ (w : World) (tape : Tape) (i : Input), w.os = os ∧ (w.forCall tape i).Shaped Tryz.checked.prog ∧ i.vars = [] ∧ Input.okWide Tryz.checked.prog (w.forCall tape i) .any w.heap.size 14 i ∧
      (Rows.OpenSpec.upto Rows.scopePartsSpec).preRow enc Tryz.checked.prog Tryz.f14 Rows.scopePartsUptoRow.domain false Rows.scopePartsUptoRow.laid (w.forCall tape i).memory i.args ∧ ({ modest := false } : Assume).holds Tryz.checked.prog (lone (Frame.enter Tryz.checked.prog 14 i.args .normal) [] (w.forCall tape i)) := by
  obtain ⟨w, tape, i, h1, h2, h3, h4, h5, h6, _⟩ := OpenSpec.witness_stopped_atRef (enc := enc) (C := Tryz.checked) (fn := Tryz.f14) (s := Rows.OpenSpec.upto Rows.scopePartsSpec) (conds := Rows.scopePartsUptoRow.domain) (apart := false) (laid := Rows.scopePartsUptoRow.laid) (f := 14) false
    (World.doorLaid Tryz.prog 62 os) #[.agg #[.int .i64 0, .string ⟨#[]⟩, .string ⟨#[]⟩, .int .i64 0, .slice none 0 0, .slice none 0 0, .int .i64 0], .agg #[.int .i64 0, .string ⟨#[]⟩, .string ⟨#[]⟩, .int .i64 0, .slice none 0 0, .slice none 0 0, .int .i64 0], .string ⟨#[]⟩] rfl (by kernel_rfl) (by kernel_rfl) (by kernel_rfl)
    (OpenSpec.preRow_of_cond 8 (x := ([.agg [.lit (.int .i64 0), .lit (.string []), .lit (.string []), .lit (.int .i64 0), .nil, .nil, .lit (.int .i64 0)], .agg [.lit (.int .i64 0), .lit (.string []), .lit (.string []), .lit (.int .i64 0), .nil, .nil, .lit (.int .i64 0)], .lit (.string [])], [], [])) (by kernel_rfl) (by kernel_rfl) (fun k hk => by cases hk; kernel_rfl) (by kernel_rfl) (scopeParts_met os _)) (fun _ _ _ => 0)
  exact ⟨w, tape, i, h1, h2, h3, h4, h5, h6⟩
theorem scopeParts_lifted (os : Os) (started : os.Started) (H : Type) (enc : TypeId × Value → H) (F : Stop.Interp) :
    ReturnsInHanded {} Tryz.checked os 14 .any ((Rows.OpenSpec.upto Rows.scopePartsSpec).preRow enc Tryz.prog Tryz.f14 Rows.scopePartsUptoRow.domain false Rows.scopePartsUptoRow.laid) (((Rows.OpenSpec.upto Rows.scopePartsSpec).at F).post enc Tryz.prog Tryz.f14 false true false false) := by
  refine returnsInHanded_of_row (C := Tryz.checked) (s := Rows.OpenSpec.upto Rows.scopePartsSpec) ownTT started (by kernel_rfl) Tryz.func14 (scopeParts_witness os H enc) ?_
  intro W base args ds gs before hval hW _ hk _ hlaid _ _
  exact scopeParts_contract H enc F W base args ds gs before hval hW (hk _ rfl) (errs_of hlaid)
end Go.Proofs.YtgmapdcdmomioaaGreatDoor.Pa
