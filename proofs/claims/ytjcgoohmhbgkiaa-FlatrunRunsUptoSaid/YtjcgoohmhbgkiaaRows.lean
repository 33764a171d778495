/-
  NARROWER THAN 'FOR EVERY INPUT', by the rows' own cells (each row's printed sentence says how): FlatrunRuns: loops · FlatrunFuel: loops · FlatrunCounts: loops.
  DERIVED. THE GIVEN ROWS OF THIS SEAT. 3 by the template 'for every input the law returns true; each argument reads behind the call as it read before'; 0 by the template 'total and deterministic' (their statements: YtjcgoohmhbgkiaaTotals.lean).
  GIVEN WITH THE SEED: the statements are not yours to turn. If you find one false, say at which input.
  Laid BY PROGRAM, IN A SANDBOX (cutbox-rows.mjs): the forced cells as the released guide's own fill.sh prints them over the translation be714640e651e1df… (all of the seat's roots in one cut). By AI agents, Wed Nov 11 2026. No macro, syntax, notation, axiom, sorry.
-/
import Derived.Test.YtjcgoohmhbgkiaaChecked
import GoSem.Claim
import GoSem.ClaimJoined
import GoSem.ClaimMapViews
import Derived.JoinedTies
import Derived.KernelRfl
namespace Go.Proofs.Ytjcgoohmhbgkiaa
/- THE CELL 'sum', in the pinned program and in every row, IS THE sha256 OF THE DUMP (.gsa) THAT YtjcgoohmhbgkiaaProg.lean LOADS. Nothing in Lean hashes anything: it is a label: what it is worth is what the hold of that sum in a sandbox is worth. -/
noncomputable def Try.pinned : Pinned := { name := "ytjcgoohmhbgkiaa", sum := "be714640e651e1dfa08cbcf261f7046941bfa676b2756ad59aa93978f2110f16", checked := Try.checked }
namespace Rows
def none {H : Type} : Left H := { results := [], args := [] }

/-- 'athanorlaw26.FlatrunRuns': WHATEVER THE INPUT: true; the input reads as it did. -/
def flatrunRunsSpec : ChangeSpec := { name := "flatrunRuns", fn := fun _ => fun
  | [d1, d2, d3] => { results := [.lit (.bool true)], args := [d1, d2, d3] }
  | _ => none }
def flatrunRunsRow : OpenClaim := { program := "ytjcgoohmhbgkiaa", sum := "be714640e651e1dfa08cbcf261f7046941bfa676b2756ad59aa93978f2110f16", func := "athanor/athanorlaw26.FlatrunRuns", spec := "flatrunRuns", inPlace := ["sync/atomic.AddInt64", "sync/atomic.LoadInt64"], unfollowed := true, recurses := true, loops := true, apart := false }
def FlatrunRunsSaid : Prop := flatrunRunsRow.holds Try.pinned (OpenSpec.ofChange flatrunRunsSpec)

/-- ITS FALSE NEIGHBOUR: 'it returns false'. Refute it at one input. -/
def flatrunRunsWrong : ChangeSpec := { name := "flatrunRuns", fn := fun _ => fun
  | [d1, d2, d3] => { results := [.lit (.bool false)], args := [d1, d2, d3] }
  | _ => none }
def FlatrunRunsWrongFalsely : Prop := flatrunRunsRow.holds Try.pinned (OpenSpec.ofChange flatrunRunsWrong)

/-- 'athanorlaw26.FlatrunFuel': WHATEVER THE INPUT: true; the input reads as it did. -/
def flatrunFuelSpec : ChangeSpec := { name := "flatrunFuel", fn := fun _ => fun
  | [d1, d2, d3] => { results := [.lit (.bool true)], args := [d1, d2, d3] }
  | _ => none }
def flatrunFuelRow : OpenClaim := { program := "ytjcgoohmhbgkiaa", sum := "be714640e651e1dfa08cbcf261f7046941bfa676b2756ad59aa93978f2110f16", func := "athanor/athanorlaw26.FlatrunFuel", spec := "flatrunFuel", inPlace := ["sync/atomic.AddInt64", "sync/atomic.LoadInt64"], unfollowed := true, recurses := true, loops := true, apart := false }
def FlatrunFuelSaid : Prop := flatrunFuelRow.holds Try.pinned (OpenSpec.ofChange flatrunFuelSpec)

/-- ITS FALSE NEIGHBOUR: 'it returns false'. Refute it at one input. -/
def flatrunFuelWrong : ChangeSpec := { name := "flatrunFuel", fn := fun _ => fun
  | [d1, d2, d3] => { results := [.lit (.bool false)], args := [d1, d2, d3] }
  | _ => none }
def FlatrunFuelWrongFalsely : Prop := flatrunFuelRow.holds Try.pinned (OpenSpec.ofChange flatrunFuelWrong)

/-- 'athanorlaw26.FlatrunCounts': WHATEVER THE INPUT: true; the input reads as it did. -/
def flatrunCountsSpec : ChangeSpec := { name := "flatrunCounts", fn := fun _ => fun
  | [d1, d2, d3] => { results := [.lit (.bool true)], args := [d1, d2, d3] }
  | _ => none }
def flatrunCountsRow : OpenClaim := { program := "ytjcgoohmhbgkiaa", sum := "be714640e651e1dfa08cbcf261f7046941bfa676b2756ad59aa93978f2110f16", func := "athanor/athanorlaw26.FlatrunCounts", spec := "flatrunCounts", inPlace := ["sync/atomic.AddInt64", "sync/atomic.LoadInt64"], unfollowed := true, recurses := true, loops := true, apart := false }
def FlatrunCountsSaid : Prop := flatrunCountsRow.holds Try.pinned (OpenSpec.ofChange flatrunCountsSpec)

/-- ITS FALSE NEIGHBOUR: 'it returns false'. Refute it at one input. -/
def flatrunCountsWrong : ChangeSpec := { name := "flatrunCounts", fn := fun _ => fun
  | [d1, d2, d3] => { results := [.lit (.bool false)], args := [d1, d2, d3] }
  | _ => none }
def FlatrunCountsWrongFalsely : Prop := flatrunCountsRow.holds Try.pinned (OpenSpec.ofChange flatrunCountsWrong)

/- THE SECOND FORM. 'bulk': how many values and letters a reading holds, each counted each time it is reached (what is shared counts as often as it is met; a slice's spare places count too). A statement '..UptoSaid' is the law's where the arguments, and the package variables that the reading takes, are together of bulk at most 1048576: NARROWER than '..Said'. Prove '..Said' where nothing that the law and all that it calls make is longer than what came in: it says more and counts as full. Else prove '..UptoSaid'. A law counts once. -/
mutual
def uptoBulk {H : Type} : DataW H → Nat
  | .lit (.string bytes) => bytes.length + 1
  | .lit _ => 1
  | .nil => 1
  | .ptr d => uptoBulk d + 1
  | .slice elems spare => uptoBulkAll elems + uptoBulkAll spare + 1
  | .agg parts => uptoBulkAll parts + 1
  | .iface _ d => uptoBulk d + 1
  | .map entries => uptoBulkEntries entries + 1
  | .held _ => 1
def uptoBulkAll {H : Type} : List (DataW H) → Nat
  | [] => 0
  | d :: r => uptoBulk d + uptoBulkAll r
def uptoBulkEntries {H : Type} : List (Lit × DataW H) → Nat
  | [] => 0
  | x :: r => uptoBulkEntry x + uptoBulkEntries r
def uptoBulkEntry {H : Type} : Lit × DataW H → Nat
  | (.string bytes, d) => bytes.length + uptoBulk d + 1
  | (_, d) => uptoBulk d + 1
 end
def uptoSmall : (H : Type) → List (DataW H) → Bool := fun _ ds => decide (uptoBulkAll ds ≤ 1048576)
def OpenSpec.upto (s : _root_.Go.ChangeSpec) : _root_.Go.OpenSpec := { _root_.Go.OpenSpec.ofChange s with cond := some uptoSmall }

/-- 'athanorlaw26.FlatrunRuns', WHERE WHAT IT READS IS OF BULK AT MOST 1048576: true; the input reads as it did. -/
def flatrunRunsUptoRow : OpenClaim := { program := "ytjcgoohmhbgkiaa", sum := "be714640e651e1dfa08cbcf261f7046941bfa676b2756ad59aa93978f2110f16", func := "athanor/athanorlaw26.FlatrunRuns", spec := "flatrunRuns", inPlace := ["sync/atomic.AddInt64", "sync/atomic.LoadInt64"], unfollowed := true, recurses := true, loops := true, apart := false, narrowed := true }
def FlatrunRunsUptoSaid : Prop := flatrunRunsUptoRow.holds Try.pinned (OpenSpec.upto flatrunRunsSpec)

/-- 'athanorlaw26.FlatrunFuel', WHERE WHAT IT READS IS OF BULK AT MOST 1048576: true; the input reads as it did. -/
def flatrunFuelUptoRow : OpenClaim := { program := "ytjcgoohmhbgkiaa", sum := "be714640e651e1dfa08cbcf261f7046941bfa676b2756ad59aa93978f2110f16", func := "athanor/athanorlaw26.FlatrunFuel", spec := "flatrunFuel", inPlace := ["sync/atomic.AddInt64", "sync/atomic.LoadInt64"], unfollowed := true, recurses := true, loops := true, apart := false, narrowed := true }
def FlatrunFuelUptoSaid : Prop := flatrunFuelUptoRow.holds Try.pinned (OpenSpec.upto flatrunFuelSpec)

/-- 'athanorlaw26.FlatrunCounts', WHERE WHAT IT READS IS OF BULK AT MOST 1048576: true; the input reads as it did. -/
def flatrunCountsUptoRow : OpenClaim := { program := "ytjcgoohmhbgkiaa", sum := "be714640e651e1dfa08cbcf261f7046941bfa676b2756ad59aa93978f2110f16", func := "athanor/athanorlaw26.FlatrunCounts", spec := "flatrunCounts", inPlace := ["sync/atomic.AddInt64", "sync/atomic.LoadInt64"], unfollowed := true, recurses := true, loops := true, apart := false, narrowed := true }
def FlatrunCountsUptoSaid : Prop := flatrunCountsUptoRow.holds Try.pinned (OpenSpec.upto flatrunCountsSpec)

end Rows
end Go.Proofs.Ytjcgoohmhbgkiaa
