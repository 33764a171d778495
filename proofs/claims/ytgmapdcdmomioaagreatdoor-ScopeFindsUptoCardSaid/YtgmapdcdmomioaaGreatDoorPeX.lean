/- What every law's end needs: the library's errors lie in memory; how arguments are opened. -/
import Derived.Test.YtgmapdcdmomioaaGreatDoorPeA
import Derived.Test.YtgmapdcdmomioaaGreatDoorTie
import Derived.LaidMore
import Derived.MakeChecks
import Derived.Carry
import Derived.Stop.LaidErr
import Derived.Deep.DeepHandedRow
import Derived.Deep.DeepWitnessRef
set_option linter.all false
set_option linter.all false
set_option autoImplicit false
namespace Go.Proofs.YtgmapdcdmomioaaGreatDoor.Pa
open Go Go.Proofs.YtgmapdcdmomioaaGreatDoor.Am Go.ChangeShapes Go.WideShapes Go.ChangeAt Go.RowKit
set_option maxRecDepth 100000
theorem ownTT : ownKnob Tryz.prog.godebug = none := by kernel_rfl
theorem laidOut : laidOutB Tryz.prog = true := by kernel_rfl
def progTypes : List TypeId := [29, 23, 76, 9, 61, 74, 91, 89, 94, 3, 27, 24, 25, 127]
theorem goodsProg : goods progTypes = true := by kernel_rfl
theorem aggProg : isAgg? (TT.und 29) = true := by kernel_rfl
theorem aggExpr : isAgg? (TT.und 27) = true := by kernel_rfl
theorem open_agg {W : World} {t : TypeId} {cs : Array Value} (ha : isAgg? (TT.und t) = true) (h : Opened W t cs.toList) : ∃ d, HasTy TT t d ∧ Rep (startE W.heap.size) W d (.agg cs) ∧ StrB d := by
  obtain ⟨ds, tys, hl, ht, h1, hr, hs⟩ := h
  obtain ⟨k1, k2⟩ := of_cellsTy ht
  refine ⟨.agg ds, .agg _ tys ds ha hl k1 h1 k2, ?_, .agg _ hs⟩
  have := Rep.agg (E := startE W.heap.size) (w := W) ds cs.toList hr.1 h1 hr.2
  simpa using this
theorem open_struct {H : Type} {enc : TypeId × Value → H} {W : World} {v : Value} {d : DataW H} {p : List MemPlace} {t : TypeId} (ht : t ∈ progTypes) (ha : isAgg? (TT.und t) = true) (hv : ∃ cs, v = .agg cs)
    (h : DataW.Trod enc Tryz.prog W 0 (fun _ => true) true t v d p) (hb : Rows.uptoBulk d ≤ 1048576) : ∃ a, HasTy TT t a ∧ Rep (startE W.heap.size) W a v ∧ StrB a := by
  obtain ⟨cs, rfl⟩ := hv
  obtain ⟨k, f⟩ := h
  exact open_agg ha (open_ty goodsProg 1048576 (by omega) _ ht k _ _ f hb)
theorem open_prog {H : Type} {enc : TypeId × Value → H} {W : World} {v : Value} {d : DataW H} {p : List MemPlace} (hv : ∃ base, Value.okWide Tryz.prog W .any base 29 v)
    (h : DataW.Trod enc Tryz.prog W 0 (fun _ => true) true 29 v d p) (hb : Rows.uptoBulk d ≤ 1048576) : ∃ a, HasTy TT 29 a ∧ Rep (startE W.heap.size) W a v ∧ StrB a :=
  open_struct List.mem_cons_self aggProg (by obtain ⟨b, hv⟩ := hv; obtain ⟨cs, e, _⟩ := okWide_struct Tryz.underlying29 hv; exact ⟨cs, e⟩) h hb
theorem open_expr {H : Type} {enc : TypeId × Value → H} {W : World} {v : Value} {d : DataW H} {p : List MemPlace} (hv : ∃ base, Value.okWide Tryz.prog W .any base 27 v)
    (h : DataW.Trod enc Tryz.prog W 0 (fun _ => true) true 27 v d p) (hb : Rows.uptoBulk d ≤ 1048576) : ∃ a, HasTy TT 27 a ∧ Rep (startE W.heap.size) W a v ∧ StrB a :=
  open_struct (by simp [progTypes]) aggExpr (by obtain ⟨b, hv⟩ := hv; obtain ⟨cs, e, _⟩ := okWide_struct Tryz.underlying27 hv; exact ⟨cs, e⟩) h hb
theorem open_str {H : Type} {enc : TypeId × Value → H} {W : World} {v : Value} {d : DataW H} {p : List MemPlace} (hv : ∃ base, Value.okWide Tryz.prog W .any base 9 v)
    (h : DataW.Trod enc Tryz.prog W 0 (fun _ => true) true 9 v d p) (hb : Rows.uptoBulk d ≤ 1048576) : ∃ a, HasTy TT 9 a ∧ Rep (startE W.heap.size) W a v ∧ StrB a := by
  obtain ⟨b, hv⟩ := hv
  obtain ⟨s, rfl, _⟩ := okWide_string Tryz.underlying9 hv
  obtain ⟨k, f⟩ := h
  have ho := open_ty goodsProg 1048576 (by omega) 9 (by simp [progTypes]) k _ _ f hb
  obtain ⟨ds, tys, hl, ht, h1, hr, hs⟩ := ho
  have hlay : lay TT 9 = some [9] := lay_one undStr rfl
  rw [hlay] at hl
  cases hl
  match ds, ht with
  | [d], ⟨ht, _⟩ => exact ⟨d, ht, hr.2 0 _ _ rfl rfl, hs d (by simp)⟩
/-- The library's errors, out of what a row says is laid. -/
theorem errs_of {w : World} (h : laidMetH Tryz.prog Rows.parseSameUptoRow.laid w) : ErrsIn w := by
  have h1 : laidMet Tryz.prog Rows.parseSameUptoRow.laid w := by
    rw [Go.MakeChecks.laidMetH_plain _ _ _ (by kernel_rfl)] at h
    exact h
  have h4 := h1.tail.tail.tail
  have h5 := h4.tail
  have star : "*" ++ "errors.errorString" = "*errors.errorString" := by decide
  have row : ∀ u, Tryz.prog.typeName? 3 u = some "*errors.errorString" → u = 236 := fun u hu =>
    typeName_ptr_named (nm := "errors.errorString") (by rw [star]; kernel_rfl) (by kernel_rfl) (by decide) u (by rw [star]; exact hu)
  have gR : Tryz.prog.globalNamed "strconv.ErrRange" = some 2 := by kernel_rfl
  have gS : Tryz.prog.globalNamed "strconv.ErrSyntax" = some 1 := by kernel_rfl
  obtain ⟨a1, s1, v1, _⟩ := laid_sentinel h4 gR (ti := 199) (by kernel_rfl) Tryz.underlying199 row Tryz.underlying236 Tryz.underlying238 rfl rfl Tryz.underlying9 (by kernel_rfl) (by kernel_rfl)
  obtain ⟨a2, s2, v2, _⟩ := laid_sentinel h5 gS (ti := 199) (by kernel_rfl) Tryz.underlying199 row Tryz.underlying236 Tryz.underlying238 rfl rfl Tryz.underlying9 (by kernel_rfl) (by kernel_rfl)
  have c1 : w.cell? ⟨1, 0, none⟩ = some (.iface 236 (.pointer (some a2))) := by
    have h0 := World.var?_cell gS v2 0
    simpa using h0
  have c2 : w.cell? ⟨2, 0, none⟩ = some (.iface 236 (.pointer (some a1))) := by
    have h0 := World.var?_cell gR v1 0
    simpa using h0
  exact ⟨⟨_, c1, .inr ⟨_, _, rfl⟩⟩, _, c2, .inr ⟨_, _, rfl⟩⟩
end Go.Proofs.YtgmapdcdmomioaaGreatDoor.Pa
