/- Proved: the law FlatGoods answers true for every flat program, and its arguments read afterwards as before. Condition: the arguments together are of bulk at most 1048576 (the given statement FlatGoodsUptoSaid). -/
import Derived.Test.YtimljadlfhccpaaRows
import Derived.Test.YtimljadlfhccpaaMkJ
import Derived.Test.YtimljadlfhccpaaRd
import Derived.WalkKit
import Derived.ProofKit
import Derived.OpenShut
import Derived.JoinedCond
set_option linter.all false
set_option linter.all false
set_option linter.all false
namespace Go.Proofs.Ytimljadlfhccpaa
open Go.ChangeShapes Go.WideShapes Go.ChangeAt Go.RowKit

theorem ownG : ownKnob Try.prog.godebug = none := by kernel_rfl
theorem laidOutG : laidOutB Try.prog = true := by kernel_rfl
set_option maxRecDepth 100000 in
theorem goods_contract (H : Type) (enc : TypeId × Value → H) (W : World) (base : Nat) (args : Array Value) (ds gs : List (DataW H)) (before : List MemPlace)
    (hval : ∀ (j : Nat) t v, Try.f3.params[j]? = some t → args[j]? = some v → Value.okWide Try.prog W .any base t v)
    (hW : DataW.Whole enc Try.prog Try.f3.params.toList Rows.flatGoodsSpec.vars false W args.toList ds gs before) (hk : Rows.uptoSmall H (ds ++ gs) = true) :
    Calls Try.prog 3 args W fun e W' => ∃ v, e = .returned v ∧ Rows.flatGoodsSpec.post enc Try.prog Try.f3 false true false false W args v W' := by
  have hW' := hW
  obtain ⟨p, q, hA0, hV, rfl, hfz, hnd⟩ := hW
  have hA : DataW.TrodAll enc Try.prog W 0 (fun _ => true) true Try.f3.params.toList args.toList ds p := hA0
  rw [Try.params3] at hA hval
  obtain ⟨v0, vs0, d0, ds0, p0, q0, hargs, rfl, rfl, h0, r0⟩ := trodAll_cons hA
  obtain ⟨rfl, rfl, rfl⟩ := trodAll_nil r0
  obtain rfl : args = #[v0] := by cases args; simp_all
  obtain ⟨rfl, rfl⟩ := trodVars_none hV
  have hb : Rows.uptoBulkAll ([d0] ++ ([] : List (DataW H))) ≤ 1048576 := of_decide_eq_true hk
  simp only [List.append_nil, Rows.uptoBulkAll] at hb
  have hlt : ∀ x ∈ p0 ++ [], x.block < W.heap.size := fun x hx => by simpa using hW'.lt x (by simpa using hx)
  have hback : ∀ (W' : World), Below W.heap.size W W' → DataW.TrodAll enc Try.prog W' 0 (fun b => decide (b < W.heap.size)) true [24] [v0] [d0] (p0 ++ []) := fun W' hn =>
    trodAll_cons_mk (Below.trod laidOutG (by kernel_rfl) (of_decide_eq_true (by kernel_rfl)) h0 hn (fun x hx => hlt x (by simp [hx]))) trodAll_mk0
  obtain ⟨a0, a1, y0, y1, n, rfl, rfl, rfl, g0, g1⟩ := Go.Joins.open_agg2 Try.underlying24 (by kernel_rfl) (by kernel_rfl) (hval 0 24 v0 rfl rfl) h0
  simp only [Rows.uptoBulk, Rows.uptoBulkAll] at hb
  obtain ⟨vf, fs, e2, hf, s1, s2, s3⟩ := rd_funs (rd_term 1048576 (by omega)) (by omega) g0 (by omega)
  obtain ⟨mn, e3, hmn⟩ := rd_int g1
  simp at e2 e3
  subst e2 e3
  refine (goods_all (f := ⟨fs, mn⟩) (m := wm W) ⟨hf, hmn⟩ ⟨s1, s2, s3⟩ W (wm_ag W)).mono fun e W' ⟨he, hn⟩ => ?_
  subst he
  refine ⟨_, rfl, _, _, _, [], _, [], hW', ?_, hback _ hn, rfl, hn.frame _, fun h => by cases h⟩
  exact trodAll_mk1 (shut_bool Try.underlying4 _)
set_option maxRecDepth 100000 in
theorem goods_lifted (os : Os) (started : os.Started) (H : Type) (enc : TypeId × Value → H) (F : Stop.Interp) :
    ReturnsInHanded {} Try.checked os 3 .any ((Rows.OpenSpec.upto Rows.flatGoodsSpec).pre6 enc Try.prog Try.f3 Rows.flatGoodsUptoRow.domain false) (((Rows.OpenSpec.upto Rows.flatGoodsSpec).at F).post enc Try.prog Try.f3 false true false false) := by
  refine returnsInHanded_of_cond (C := Try.checked) (s := Rows.OpenSpec.upto Rows.flatGoodsSpec) (k := Rows.uptoSmall) rfl ownG started (by kernel_rfl) Try.func3
    (OpenSpec.witness (enc := enc) (C := Try.checked) (s := Rows.OpenSpec.upto Rows.flatGoodsSpec) (k := Rows.uptoSmall) rfl false ⟨#[], #[.agg #[.slice none 0 0, .int .i64 0]], []⟩ 8 (by kernel_rfl) (by kernel_rfl) (by kernel_rfl)
      (x := ([.agg [.nil, .lit (.int .i64 0)]], [], [])) (by kernel_rfl) rfl (by kernel_rfl)) ?_
  intro W base args ds gs before hval hW _ hk _
  exact goods_contract H enc W base args ds gs before hval hW hk

theorem goods_holds : Rows.FlatGoodsUptoSaid :=
  OpenClaim.holds_of_cond 3 Try.f3 rfl rfl rfl rfl rfl rfl rfl ⟨rfl, rfl, rfl, rfl, rfl⟩ rfl rfl rfl rfl rfl (by kernel_rfl) Try.func3 (by kernel_rfl)
    (of_decide_eq_true (by kernel_rfl)) (by unfold Func.isWrapper; first | (rw [if_pos (by decide +kernel)]; kernel_rfl) | (rw [if_neg (by decide +kernel)]; exact ⟨rfl, rfl⟩))
    (fun os started H enc _ F => goods_lifted os started H enc F)
#print axioms goods_holds
end Go.Proofs.Ytimljadlfhccpaa
