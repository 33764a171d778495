/-
  NARROWER THAN 'FOR EVERY INPUT', by the rows' own cells (each row's printed sentence says how): FlatGoods: loops · FlatSame: loops.
  DERIVED. THE GIVEN ROWS OF THIS SEAT. 2 by the template 'for every input the law returns true; each argument reads behind the call as it read before'; 0 by the template 'total and deterministic' (their statements: YtimljadlfhccpaaTotals.lean).
  GIVEN WITH THE SEED: the statements are not yours to turn. If you find one false, say at which input.
  Laid BY PROGRAM, IN A SANDBOX (cutbox-rows.mjs): the forced cells as the released guide's own fill.sh prints them over the translation 5d91d4f8611a09e2… (all of the seat's roots in one cut). By AI agents, Wed Nov 11 2026. No macro, syntax, notation, axiom, sorry.
-/
import Derived.Test.YtimljadlfhccpaaChecked
import GoSem.Claim
import GoSem.ClaimJoined
import GoSem.ClaimMapViews
import Derived.JoinedTies
import Derived.KernelRfl
namespace Go.Proofs.Ytimljadlfhccpaa
/- THE CELL 'sum', in the pinned program and in every row, IS THE sha256 OF THE DUMP (.gsa) THAT YtimljadlfhccpaaProg.lean LOADS. Nothing in Lean hashes anything: it is a label: what it is worth is what the hold of that sum in a sandbox is worth. -/
noncomputable def Try.pinned : Pinned := { name := "ytimljadlfhccpaa", sum := "5d91d4f8611a09e20e34fbc7868498293c8e78523affc9b1208448c9a3c62fe9", checked := Try.checked }
namespace Rows
def none {H : Type} : Left H := { results := [], args := [] }

/-- 'athanorlaw25.FlatGoods': WHATEVER THE INPUT: true; the input reads as it did. -/
def flatGoodsSpec : ChangeSpec := { name := "flatGoods", fn := fun _ => fun
  | [d] => { results := [.lit (.bool true)], args := [d] }
  | _ => none }
def flatGoodsRow : OpenClaim := { program := "ytimljadlfhccpaa", sum := "5d91d4f8611a09e20e34fbc7868498293c8e78523affc9b1208448c9a3c62fe9", func := "athanor/athanorlaw25.FlatGoods", spec := "flatGoods", unfollowed := true, recurses := true, loops := true, apart := false }
def FlatGoodsSaid : Prop := flatGoodsRow.holds Try.pinned (OpenSpec.ofChange flatGoodsSpec)

/-- ITS FALSE NEIGHBOUR: 'it returns false'. Refute it at one input. -/
def flatGoodsWrong : ChangeSpec := { name := "flatGoods", fn := fun _ => fun
  | [d] => { results := [.lit (.bool false)], args := [d] }
  | _ => none }
def FlatGoodsWrongFalsely : Prop := flatGoodsRow.holds Try.pinned (OpenSpec.ofChange flatGoodsWrong)

/-- 'athanorlaw25.FlatSame': WHATEVER THE INPUT: true; the input reads as it did. -/
def flatSameSpec : ChangeSpec := { name := "flatSame", fn := fun _ => fun
  | [d] => { results := [.lit (.bool true)], args := [d] }
  | _ => none }
def flatSameRow : OpenClaim := { program := "ytimljadlfhccpaa", sum := "5d91d4f8611a09e20e34fbc7868498293c8e78523affc9b1208448c9a3c62fe9", func := "athanor/athanorlaw25.FlatSame", spec := "flatSame", unfollowed := true, recurses := true, loops := true, apart := false }
def FlatSameSaid : Prop := flatSameRow.holds Try.pinned (OpenSpec.ofChange flatSameSpec)

/-- ITS FALSE NEIGHBOUR: 'it returns false'. Refute it at one input. -/
def flatSameWrong : ChangeSpec := { name := "flatSame", fn := fun _ => fun
  | [d] => { results := [.lit (.bool false)], args := [d] }
  | _ => none }
def FlatSameWrongFalsely : Prop := flatSameRow.holds Try.pinned (OpenSpec.ofChange flatSameWrong)

/- THE SECOND FORM. 'bulk': how many values and letters a reading holds, each counted each time it is reached (what is shared counts as often as it is met; a slice's spare places count too). A statement '..UptoSaid' is the law's where the arguments, and the package variables that the reading takes, are together of bulk at most 1048576: NARROWER than '..Said'. Prove '..Said' where nothing that the law and all that it calls make is longer than what came in: it says more and counts as full. Else prove '..UptoSaid'. A law counts once. -/
mutual
def uptoBulk {H : Type} : DataW H → Nat
  | .lit (.string bytes) => bytes.length + 1
  | .lit _ => 1
  | .nil => 1
  | .ptr d => uptoBulk d + 1
  | .slice elems spare => uptoBulkAll elems + uptoBulkAll spare + 1
  | .agg parts => uptoBulkAll parts + 1
  | .iface _ d => uptoBulk d + 1
  | .map entries => uptoBulkEntries entries + 1
  | .held _ => 1
def uptoBulkAll {H : Type} : List (DataW H) → Nat
  | [] => 0
  | d :: r => uptoBulk d + uptoBulkAll r
def uptoBulkEntries {H : Type} : List (Lit × DataW H) → Nat
  | [] => 0
  | x :: r => uptoBulkEntry x + uptoBulkEntries r
def uptoBulkEntry {H : Type} : Lit × DataW H → Nat
  | (.string bytes, d) => bytes.length + uptoBulk d + 1
  | (_, d) => uptoBulk d + 1
 end
def uptoSmall : (H : Type) → List (DataW H) → Bool := fun _ ds => decide (uptoBulkAll ds ≤ 1048576)
def OpenSpec.upto (s : _root_.Go.ChangeSpec) : _root_.Go.OpenSpec := { _root_.Go.OpenSpec.ofChange s with cond := some uptoSmall }

/-- 'athanorlaw25.FlatGoods', WHERE WHAT IT READS IS OF BULK AT MOST 1048576: true; the input reads as it did. -/
def flatGoodsUptoRow : OpenClaim := { program := "ytimljadlfhccpaa", sum := "5d91d4f8611a09e20e34fbc7868498293c8e78523affc9b1208448c9a3c62fe9", func := "athanor/athanorlaw25.FlatGoods", spec := "flatGoods", unfollowed := true, recurses := true, loops := true, apart := false, narrowed := true }
def FlatGoodsUptoSaid : Prop := flatGoodsUptoRow.holds Try.pinned (OpenSpec.upto flatGoodsSpec)

/-- 'athanorlaw25.FlatSame', WHERE WHAT IT READS IS OF BULK AT MOST 1048576: true; the input reads as it did. -/
def flatSameUptoRow : OpenClaim := { program := "ytimljadlfhccpaa", sum := "5d91d4f8611a09e20e34fbc7868498293c8e78523affc9b1208448c9a3c62fe9", func := "athanor/athanorlaw25.FlatSame", spec := "flatSame", unfollowed := true, recurses := true, loops := true, apart := false, narrowed := true }
def FlatSameUptoSaid : Prop := flatSameUptoRow.holds Try.pinned (OpenSpec.upto flatSameSpec)

end Rows
end Go.Proofs.Ytimljadlfhccpaa
