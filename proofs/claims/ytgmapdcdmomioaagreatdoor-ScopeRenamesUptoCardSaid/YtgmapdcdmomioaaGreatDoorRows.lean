/-
  NARROWER THAN 'FOR EVERY INPUT', by the rows' own cells (each row's printed sentence says how): ParseReads: laid · ParseBrackets: laid · ParseSpread: laid · ParseSame: loops, laid · ParseChecks: loops, laid · ParseTakes: laid · ScopeChecks: loops, laid · ScopeFinds: loops, laid · ScopeFree: loops, laid · ScopeClosed: loops, laid · ScopeRenames: loops, laid · ScopeParts: loops, laid.
  DERIVED. THE GIVEN ROWS OF THIS SEAT. 12 by the template 'for every input the law returns true; each argument reads behind the call as it read before'; 0 by the template 'total and deterministic' (their statements: YtgmapdcdmomioaaGreatDoorTotals.lean).
  GIVEN WITH THE SEED: the statements are not yours to turn. If you find one false, say at which input.
  Laid BY PROGRAM, IN A SANDBOX (cutbox-rows.mjs): the forced cells as the released guide's own fill.sh prints them over the translation 05a36f89ebc40cc7… (all of the seat's roots in one cut). By AI agents, Wed Nov 11 2026. No macro, syntax, notation, axiom, sorry.
-/
import Derived.Test.YtgmapdcdmomioaaGreatDoorChecked
import GoSem.Claim
import GoSem.ClaimJoined
import GoSem.ClaimMapViews
import Derived.JoinedTies
import Derived.KernelRfl
namespace Go.Proofs.YtgmapdcdmomioaaGreatDoor
/- THE CELL 'sum', in the pinned program and in every row, IS THE sha256 OF THE DUMP (.gsa) THAT YtgmapdcdmomioaaGreatDoorProg.lean LOADS. Nothing in Lean hashes anything: it is a label: what it is worth is what the hold of that sum in a sandbox is worth. -/
noncomputable def Tryz.pinned : Pinned := { name := "ytgmapdcdmomioaagreatdoor", sum := "05a36f89ebc40cc7ec2c1bf7b6d720709b110a0ad6582798663236d9b12881d3", checked := Tryz.checked }
namespace Rows
def none {H : Type} : Left H := { results := [], args := [] }

/- WHAT THE LISTED PACKAGE-LEVEL VARIABLES READ AS WHEN THE CALL BEGINS. Each datum BY PROGRAM (the guide's laid-datum.mjs) off the statement by which the dump's own 'gosem.cut.vars' lays the variable. In a bare row this is a premise. The card (YtgmapdcdmomioaaGreatDoorCards.lean) ties it to the program's text. -/
def laid_math_bits_deBruijn32tab {H : Type} : DataW H := .agg [.lit (.int .u8 0), .lit (.int .u8 1), .lit (.int .u8 28), .lit (.int .u8 2), .lit (.int .u8 29), .lit (.int .u8 14), .lit (.int .u8 24), .lit (.int .u8 3), .lit (.int .u8 30), .lit (.int .u8 22), .lit (.int .u8 20), .lit (.int .u8 15), .lit (.int .u8 25), .lit (.int .u8 17), .lit (.int .u8 4), .lit (.int .u8 8), .lit (.int .u8 31), .lit (.int .u8 27), .lit (.int .u8 13), .lit (.int .u8 23), .lit (.int .u8 21), .lit (.int .u8 19), .lit (.int .u8 16), .lit (.int .u8 7), .lit (.int .u8 26), .lit (.int .u8 12), .lit (.int .u8 18), .lit (.int .u8 6), .lit (.int .u8 11), .lit (.int .u8 5), .lit (.int .u8 10), .lit (.int .u8 9)]
def laid_math_bits_deBruijn64tab {H : Type} : DataW H := .agg [.lit (.int .u8 0), .lit (.int .u8 1), .lit (.int .u8 56), .lit (.int .u8 2), .lit (.int .u8 57), .lit (.int .u8 49), .lit (.int .u8 28), .lit (.int .u8 3), .lit (.int .u8 61), .lit (.int .u8 58), .lit (.int .u8 42), .lit (.int .u8 50), .lit (.int .u8 38), .lit (.int .u8 29), .lit (.int .u8 17), .lit (.int .u8 4), .lit (.int .u8 62), .lit (.int .u8 47), .lit (.int .u8 59), .lit (.int .u8 36), .lit (.int .u8 45), .lit (.int .u8 43), .lit (.int .u8 51), .lit (.int .u8 22), .lit (.int .u8 53), .lit (.int .u8 39), .lit (.int .u8 33), .lit (.int .u8 30), .lit (.int .u8 24), .lit (.int .u8 18), .lit (.int .u8 12), .lit (.int .u8 5), .lit (.int .u8 63), .lit (.int .u8 55), .lit (.int .u8 48), .lit (.int .u8 27), .lit (.int .u8 60), .lit (.int .u8 41), .lit (.int .u8 37), .lit (.int .u8 16), .lit (.int .u8 46), .lit (.int .u8 35), .lit (.int .u8 44), .lit (.int .u8 21), .lit (.int .u8 52), .lit (.int .u8 32), .lit (.int .u8 23), .lit (.int .u8 11), .lit (.int .u8 54), .lit (.int .u8 26), .lit (.int .u8 40), .lit (.int .u8 15), .lit (.int .u8 34), .lit (.int .u8 20), .lit (.int .u8 31), .lit (.int .u8 10), .lit (.int .u8 25), .lit (.int .u8 14), .lit (.int .u8 19), .lit (.int .u8 9), .lit (.int .u8 13), .lit (.int .u8 8), .lit (.int .u8 7), .lit (.int .u8 6)]
def laid_internal_strconv_uint64pow10 {H : Type} : DataW H := .agg [.lit (.int .u64 1), .lit (.int .u64 10), .lit (.int .u64 100), .lit (.int .u64 1000), .lit (.int .u64 10000), .lit (.int .u64 100000), .lit (.int .u64 1000000), .lit (.int .u64 10000000), .lit (.int .u64 100000000), .lit (.int .u64 1000000000), .lit (.int .u64 10000000000), .lit (.int .u64 100000000000), .lit (.int .u64 1000000000000), .lit (.int .u64 10000000000000), .lit (.int .u64 100000000000000), .lit (.int .u64 1000000000000000), .lit (.int .u64 10000000000000000), .lit (.int .u64 100000000000000000), .lit (.int .u64 1000000000000000000), .lit (.int .u64 10000000000000000000)]
def laid_strconv_ErrRange {H : Type} : DataW H := .iface "*errors.errorString" (.ptr (.agg [.lit (.string [118, 97, 108, 117, 101, 32, 111, 117, 116, 32, 111, 102, 32, 114, 97, 110, 103, 101])]))
def laid_strconv_ErrSyntax {H : Type} : DataW H := .iface "*errors.errorString" (.ptr (.agg [.lit (.string [105, 110, 118, 97, 108, 105, 100, 32, 115, 121, 110, 116, 97, 120])]))

/-- 'athanorlaw12.ParseReads': WHATEVER THE INPUT: true; the input reads as it did. -/
def parseReadsSpec : ChangeSpec := { name := "parseReads", fn := fun _ => fun
  | [d] => { results := [.lit (.bool true)], args := [d] }
  | _ => none }
def parseReadsRow : OpenClaim := { program := "ytgmapdcdmomioaagreatdoor", sum := "05a36f89ebc40cc7ec2c1bf7b6d720709b110a0ad6582798663236d9b12881d3", func := "athanor/athanorlaw12.ParseReads", spec := "parseReads", inPlace := ["internal/bytealg.IndexByteString"], unfollowed := true, recurses := true, named := ["strconv.ErrSyntax", "strconv.ErrRange", "internal/strconv.uint64pow10", "math/bits.deBruijn32tab", "math/bits.deBruijn64tab"], apart := false, laid := [("math/bits.deBruijn32tab", laid_math_bits_deBruijn32tab), ("math/bits.deBruijn64tab", laid_math_bits_deBruijn64tab), ("internal/strconv.uint64pow10", laid_internal_strconv_uint64pow10), ("strconv.ErrRange", laid_strconv_ErrRange), ("strconv.ErrSyntax", laid_strconv_ErrSyntax)] }
def ParseReadsSaid : Prop := parseReadsRow.holds Tryz.pinned (OpenSpec.ofChange parseReadsSpec)

/-- ITS FALSE NEIGHBOUR: 'it returns false'. Refute it at one input. -/
def parseReadsWrong : ChangeSpec := { name := "parseReads", fn := fun _ => fun
  | [d] => { results := [.lit (.bool false)], args := [d] }
  | _ => none }
def ParseReadsWrongFalsely : Prop := parseReadsRow.holds Tryz.pinned (OpenSpec.ofChange parseReadsWrong)

/-- 'athanorlaw12.ParseBrackets': WHATEVER THE INPUT: true; the input reads as it did. -/
def parseBracketsSpec : ChangeSpec := { name := "parseBrackets", fn := fun _ => fun
  | [d] => { results := [.lit (.bool true)], args := [d] }
  | _ => none }
def parseBracketsRow : OpenClaim := { program := "ytgmapdcdmomioaagreatdoor", sum := "05a36f89ebc40cc7ec2c1bf7b6d720709b110a0ad6582798663236d9b12881d3", func := "athanor/athanorlaw12.ParseBrackets", spec := "parseBrackets", inPlace := ["internal/bytealg.IndexByteString"], unfollowed := true, recurses := true, named := ["strconv.ErrSyntax", "strconv.ErrRange", "internal/strconv.uint64pow10", "math/bits.deBruijn32tab", "math/bits.deBruijn64tab"], apart := false, laid := [("math/bits.deBruijn32tab", laid_math_bits_deBruijn32tab), ("math/bits.deBruijn64tab", laid_math_bits_deBruijn64tab), ("internal/strconv.uint64pow10", laid_internal_strconv_uint64pow10), ("strconv.ErrRange", laid_strconv_ErrRange), ("strconv.ErrSyntax", laid_strconv_ErrSyntax)] }
def ParseBracketsSaid : Prop := parseBracketsRow.holds Tryz.pinned (OpenSpec.ofChange parseBracketsSpec)

/-- ITS FALSE NEIGHBOUR: 'it returns false'. Refute it at one input. -/
def parseBracketsWrong : ChangeSpec := { name := "parseBrackets", fn := fun _ => fun
  | [d] => { results := [.lit (.bool false)], args := [d] }
  | _ => none }
def ParseBracketsWrongFalsely : Prop := parseBracketsRow.holds Tryz.pinned (OpenSpec.ofChange parseBracketsWrong)

/-- 'athanorlaw12.ParseSpread': WHATEVER THE INPUT: true; the input reads as it did. -/
def parseSpreadSpec : ChangeSpec := { name := "parseSpread", fn := fun _ => fun
  | [d] => { results := [.lit (.bool true)], args := [d] }
  | _ => none }
def parseSpreadRow : OpenClaim := { program := "ytgmapdcdmomioaagreatdoor", sum := "05a36f89ebc40cc7ec2c1bf7b6d720709b110a0ad6582798663236d9b12881d3", func := "athanor/athanorlaw12.ParseSpread", spec := "parseSpread", inPlace := ["internal/bytealg.IndexByteString"], unfollowed := true, recurses := true, named := ["strconv.ErrSyntax", "strconv.ErrRange", "internal/strconv.uint64pow10", "math/bits.deBruijn32tab", "math/bits.deBruijn64tab"], apart := false, laid := [("math/bits.deBruijn32tab", laid_math_bits_deBruijn32tab), ("math/bits.deBruijn64tab", laid_math_bits_deBruijn64tab), ("internal/strconv.uint64pow10", laid_internal_strconv_uint64pow10), ("strconv.ErrRange", laid_strconv_ErrRange), ("strconv.ErrSyntax", laid_strconv_ErrSyntax)] }
def ParseSpreadSaid : Prop := parseSpreadRow.holds Tryz.pinned (OpenSpec.ofChange parseSpreadSpec)

/-- ITS FALSE NEIGHBOUR: 'it returns false'. Refute it at one input. -/
def parseSpreadWrong : ChangeSpec := { name := "parseSpread", fn := fun _ => fun
  | [d] => { results := [.lit (.bool false)], args := [d] }
  | _ => none }
def ParseSpreadWrongFalsely : Prop := parseSpreadRow.holds Tryz.pinned (OpenSpec.ofChange parseSpreadWrong)

/-- 'athanorlaw12.ParseSame': WHATEVER THE INPUT: true; the input reads as it did. -/
def parseSameSpec : ChangeSpec := { name := "parseSame", fn := fun _ => fun
  | [d1, d2] => { results := [.lit (.bool true)], args := [d1, d2] }
  | _ => none }
def parseSameRow : OpenClaim := { program := "ytgmapdcdmomioaagreatdoor", sum := "05a36f89ebc40cc7ec2c1bf7b6d720709b110a0ad6582798663236d9b12881d3", func := "athanor/athanorlaw12.ParseSame", spec := "parseSame", inPlace := ["internal/bytealg.IndexByteString"], unfollowed := true, recurses := true, named := ["strconv.ErrSyntax", "strconv.ErrRange", "internal/strconv.uint64pow10", "math/bits.deBruijn32tab", "math/bits.deBruijn64tab"], loops := true, apart := false, laid := [("math/bits.deBruijn32tab", laid_math_bits_deBruijn32tab), ("math/bits.deBruijn64tab", laid_math_bits_deBruijn64tab), ("internal/strconv.uint64pow10", laid_internal_strconv_uint64pow10), ("strconv.ErrRange", laid_strconv_ErrRange), ("strconv.ErrSyntax", laid_strconv_ErrSyntax)] }
def ParseSameSaid : Prop := parseSameRow.holds Tryz.pinned (OpenSpec.ofChange parseSameSpec)

/-- ITS FALSE NEIGHBOUR: 'it returns false'. Refute it at one input. -/
def parseSameWrong : ChangeSpec := { name := "parseSame", fn := fun _ => fun
  | [d1, d2] => { results := [.lit (.bool false)], args := [d1, d2] }
  | _ => none }
def ParseSameWrongFalsely : Prop := parseSameRow.holds Tryz.pinned (OpenSpec.ofChange parseSameWrong)

/-- 'athanorlaw12.ParseChecks': WHATEVER THE INPUT: true; the input reads as it did. -/
def parseChecksSpec : ChangeSpec := { name := "parseChecks", fn := fun _ => fun
  | [d] => { results := [.lit (.bool true)], args := [d] }
  | _ => none }
def parseChecksRow : OpenClaim := { program := "ytgmapdcdmomioaagreatdoor", sum := "05a36f89ebc40cc7ec2c1bf7b6d720709b110a0ad6582798663236d9b12881d3", func := "athanor/athanorlaw12.ParseChecks", spec := "parseChecks", inPlace := ["internal/bytealg.IndexByteString", "internal/abi.NoEscape", "internal/bytealg.MakeNoZero"], unfollowed := true, recurses := true, named := ["strconv.ErrSyntax", "strconv.ErrRange", "internal/strconv.uint64pow10", "math/bits.deBruijn32tab", "math/bits.deBruijn64tab"], loops := true, apart := false, laid := [("math/bits.deBruijn32tab", laid_math_bits_deBruijn32tab), ("math/bits.deBruijn64tab", laid_math_bits_deBruijn64tab), ("internal/strconv.uint64pow10", laid_internal_strconv_uint64pow10), ("strconv.ErrRange", laid_strconv_ErrRange), ("strconv.ErrSyntax", laid_strconv_ErrSyntax)] }
def ParseChecksSaid : Prop := parseChecksRow.holds Tryz.pinned (OpenSpec.ofChange parseChecksSpec)

/-- ITS FALSE NEIGHBOUR: 'it returns false'. Refute it at one input. -/
def parseChecksWrong : ChangeSpec := { name := "parseChecks", fn := fun _ => fun
  | [d] => { results := [.lit (.bool false)], args := [d] }
  | _ => none }
def ParseChecksWrongFalsely : Prop := parseChecksRow.holds Tryz.pinned (OpenSpec.ofChange parseChecksWrong)

/-- 'athanorlaw12.ParseTakes': WHATEVER THE INPUT: true; the input reads as it did. -/
def parseTakesSpec : ChangeSpec := { name := "parseTakes", fn := fun _ => fun
  | [d] => { results := [.lit (.bool true)], args := [d] }
  | _ => none }
def parseTakesRow : OpenClaim := { program := "ytgmapdcdmomioaagreatdoor", sum := "05a36f89ebc40cc7ec2c1bf7b6d720709b110a0ad6582798663236d9b12881d3", func := "athanor/athanorlaw12.ParseTakes", spec := "parseTakes", inPlace := ["internal/bytealg.IndexByteString", "internal/abi.NoEscape", "internal/bytealg.MakeNoZero"], unfollowed := true, recurses := true, named := ["strconv.ErrSyntax", "strconv.ErrRange", "internal/strconv.uint64pow10", "math/bits.deBruijn32tab", "math/bits.deBruijn64tab"], apart := false, laid := [("math/bits.deBruijn32tab", laid_math_bits_deBruijn32tab), ("math/bits.deBruijn64tab", laid_math_bits_deBruijn64tab), ("internal/strconv.uint64pow10", laid_internal_strconv_uint64pow10), ("strconv.ErrRange", laid_strconv_ErrRange), ("strconv.ErrSyntax", laid_strconv_ErrSyntax)] }
def ParseTakesSaid : Prop := parseTakesRow.holds Tryz.pinned (OpenSpec.ofChange parseTakesSpec)

/-- ITS FALSE NEIGHBOUR: 'it returns false'. Refute it at one input. -/
def parseTakesWrong : ChangeSpec := { name := "parseTakes", fn := fun _ => fun
  | [d] => { results := [.lit (.bool false)], args := [d] }
  | _ => none }
def ParseTakesWrongFalsely : Prop := parseTakesRow.holds Tryz.pinned (OpenSpec.ofChange parseTakesWrong)

/-- 'athanorlaw14.ScopeChecks': WHATEVER THE INPUT: true; the input reads as it did. -/
def scopeChecksSpec : ChangeSpec := { name := "scopeChecks", fn := fun _ => fun
  | [d] => { results := [.lit (.bool true)], args := [d] }
  | _ => none }
def scopeChecksRow : OpenClaim := { program := "ytgmapdcdmomioaagreatdoor", sum := "05a36f89ebc40cc7ec2c1bf7b6d720709b110a0ad6582798663236d9b12881d3", func := "athanor/athanorlaw14.ScopeChecks", spec := "scopeChecks", inPlace := ["internal/bytealg.IndexByteString", "internal/abi.NoEscape", "internal/bytealg.MakeNoZero"], unfollowed := true, recurses := true, named := ["strconv.ErrSyntax", "strconv.ErrRange", "internal/strconv.uint64pow10", "math/bits.deBruijn32tab", "math/bits.deBruijn64tab"], loops := true, apart := false, laid := [("math/bits.deBruijn32tab", laid_math_bits_deBruijn32tab), ("math/bits.deBruijn64tab", laid_math_bits_deBruijn64tab), ("internal/strconv.uint64pow10", laid_internal_strconv_uint64pow10), ("strconv.ErrRange", laid_strconv_ErrRange), ("strconv.ErrSyntax", laid_strconv_ErrSyntax)] }
def ScopeChecksSaid : Prop := scopeChecksRow.holds Tryz.pinned (OpenSpec.ofChange scopeChecksSpec)

/-- ITS FALSE NEIGHBOUR: 'it returns false'. Refute it at one input. -/
def scopeChecksWrong : ChangeSpec := { name := "scopeChecks", fn := fun _ => fun
  | [d] => { results := [.lit (.bool false)], args := [d] }
  | _ => none }
def ScopeChecksWrongFalsely : Prop := scopeChecksRow.holds Tryz.pinned (OpenSpec.ofChange scopeChecksWrong)

/-- 'athanorlaw14.ScopeFinds': WHATEVER THE INPUT: true; the input reads as it did. -/
def scopeFindsSpec : ChangeSpec := { name := "scopeFinds", fn := fun _ => fun
  | [d1, d2] => { results := [.lit (.bool true)], args := [d1, d2] }
  | _ => none }
def scopeFindsRow : OpenClaim := { program := "ytgmapdcdmomioaagreatdoor", sum := "05a36f89ebc40cc7ec2c1bf7b6d720709b110a0ad6582798663236d9b12881d3", func := "athanor/athanorlaw14.ScopeFinds", spec := "scopeFinds", inPlace := ["internal/bytealg.IndexByteString", "internal/abi.NoEscape", "internal/bytealg.MakeNoZero"], unfollowed := true, recurses := true, named := ["strconv.ErrSyntax", "strconv.ErrRange", "internal/strconv.uint64pow10", "math/bits.deBruijn32tab", "math/bits.deBruijn64tab"], loops := true, apart := false, laid := [("math/bits.deBruijn32tab", laid_math_bits_deBruijn32tab), ("math/bits.deBruijn64tab", laid_math_bits_deBruijn64tab), ("internal/strconv.uint64pow10", laid_internal_strconv_uint64pow10), ("strconv.ErrRange", laid_strconv_ErrRange), ("strconv.ErrSyntax", laid_strconv_ErrSyntax)] }
def ScopeFindsSaid : Prop := scopeFindsRow.holds Tryz.pinned (OpenSpec.ofChange scopeFindsSpec)

/-- ITS FALSE NEIGHBOUR: 'it returns false'. Refute it at one input. -/
def scopeFindsWrong : ChangeSpec := { name := "scopeFinds", fn := fun _ => fun
  | [d1, d2] => { results := [.lit (.bool false)], args := [d1, d2] }
  | _ => none }
def ScopeFindsWrongFalsely : Prop := scopeFindsRow.holds Tryz.pinned (OpenSpec.ofChange scopeFindsWrong)

/-- 'athanorlaw14.ScopeFree': WHATEVER THE INPUT: true; the input reads as it did. -/
def scopeFreeSpec : ChangeSpec := { name := "scopeFree", fn := fun _ => fun
  | [d] => { results := [.lit (.bool true)], args := [d] }
  | _ => none }
def scopeFreeRow : OpenClaim := { program := "ytgmapdcdmomioaagreatdoor", sum := "05a36f89ebc40cc7ec2c1bf7b6d720709b110a0ad6582798663236d9b12881d3", func := "athanor/athanorlaw14.ScopeFree", spec := "scopeFree", inPlace := ["internal/bytealg.IndexByteString", "internal/abi.NoEscape", "internal/bytealg.MakeNoZero"], unfollowed := true, recurses := true, named := ["strconv.ErrSyntax", "strconv.ErrRange", "internal/strconv.uint64pow10", "math/bits.deBruijn32tab", "math/bits.deBruijn64tab"], loops := true, apart := false, laid := [("math/bits.deBruijn32tab", laid_math_bits_deBruijn32tab), ("math/bits.deBruijn64tab", laid_math_bits_deBruijn64tab), ("internal/strconv.uint64pow10", laid_internal_strconv_uint64pow10), ("strconv.ErrRange", laid_strconv_ErrRange), ("strconv.ErrSyntax", laid_strconv_ErrSyntax)] }
def ScopeFreeSaid : Prop := scopeFreeRow.holds Tryz.pinned (OpenSpec.ofChange scopeFreeSpec)

/-- ITS FALSE NEIGHBOUR: 'it returns false'. Refute it at one input. -/
def scopeFreeWrong : ChangeSpec := { name := "scopeFree", fn := fun _ => fun
  | [d] => { results := [.lit (.bool false)], args := [d] }
  | _ => none }
def ScopeFreeWrongFalsely : Prop := scopeFreeRow.holds Tryz.pinned (OpenSpec.ofChange scopeFreeWrong)

/-- 'athanorlaw14.ScopeClosed': WHATEVER THE INPUT: true; the input reads as it did. -/
def scopeClosedSpec : ChangeSpec := { name := "scopeClosed", fn := fun _ => fun
  | [d] => { results := [.lit (.bool true)], args := [d] }
  | _ => none }
def scopeClosedRow : OpenClaim := { program := "ytgmapdcdmomioaagreatdoor", sum := "05a36f89ebc40cc7ec2c1bf7b6d720709b110a0ad6582798663236d9b12881d3", func := "athanor/athanorlaw14.ScopeClosed", spec := "scopeClosed", inPlace := ["internal/bytealg.IndexByteString", "internal/abi.NoEscape", "internal/bytealg.MakeNoZero"], unfollowed := true, recurses := true, named := ["strconv.ErrSyntax", "strconv.ErrRange", "internal/strconv.uint64pow10", "math/bits.deBruijn32tab", "math/bits.deBruijn64tab"], loops := true, apart := false, laid := [("math/bits.deBruijn32tab", laid_math_bits_deBruijn32tab), ("math/bits.deBruijn64tab", laid_math_bits_deBruijn64tab), ("internal/strconv.uint64pow10", laid_internal_strconv_uint64pow10), ("strconv.ErrRange", laid_strconv_ErrRange), ("strconv.ErrSyntax", laid_strconv_ErrSyntax)] }
def ScopeClosedSaid : Prop := scopeClosedRow.holds Tryz.pinned (OpenSpec.ofChange scopeClosedSpec)

/-- ITS FALSE NEIGHBOUR: 'it returns false'. Refute it at one input. -/
def scopeClosedWrong : ChangeSpec := { name := "scopeClosed", fn := fun _ => fun
  | [d] => { results := [.lit (.bool false)], args := [d] }
  | _ => none }
def ScopeClosedWrongFalsely : Prop := scopeClosedRow.holds Tryz.pinned (OpenSpec.ofChange scopeClosedWrong)

/-- 'athanorlaw14.ScopeRenames': WHATEVER THE INPUT: true; the input reads as it did. -/
def scopeRenamesSpec : ChangeSpec := { name := "scopeRenames", fn := fun _ => fun
  | [d] => { results := [.lit (.bool true)], args := [d] }
  | _ => none }
def scopeRenamesRow : OpenClaim := { program := "ytgmapdcdmomioaagreatdoor", sum := "05a36f89ebc40cc7ec2c1bf7b6d720709b110a0ad6582798663236d9b12881d3", func := "athanor/athanorlaw14.ScopeRenames", spec := "scopeRenames", inPlace := ["internal/bytealg.IndexByteString", "internal/abi.NoEscape", "internal/bytealg.MakeNoZero"], unfollowed := true, recurses := true, named := ["strconv.ErrSyntax", "strconv.ErrRange", "internal/strconv.uint64pow10", "math/bits.deBruijn32tab", "math/bits.deBruijn64tab"], loops := true, apart := false, laid := [("math/bits.deBruijn32tab", laid_math_bits_deBruijn32tab), ("math/bits.deBruijn64tab", laid_math_bits_deBruijn64tab), ("internal/strconv.uint64pow10", laid_internal_strconv_uint64pow10), ("strconv.ErrRange", laid_strconv_ErrRange), ("strconv.ErrSyntax", laid_strconv_ErrSyntax)] }
def ScopeRenamesSaid : Prop := scopeRenamesRow.holds Tryz.pinned (OpenSpec.ofChange scopeRenamesSpec)

/-- ITS FALSE NEIGHBOUR: 'it returns false'. Refute it at one input. -/
def scopeRenamesWrong : ChangeSpec := { name := "scopeRenames", fn := fun _ => fun
  | [d] => { results := [.lit (.bool false)], args := [d] }
  | _ => none }
def ScopeRenamesWrongFalsely : Prop := scopeRenamesRow.holds Tryz.pinned (OpenSpec.ofChange scopeRenamesWrong)

/-- 'athanorlaw14.ScopeParts': WHATEVER THE INPUT: true; the input reads as it did. -/
def scopePartsSpec : ChangeSpec := { name := "scopeParts", fn := fun _ => fun
  | [d1, d2, d3] => { results := [.lit (.bool true)], args := [d1, d2, d3] }
  | _ => none }
def scopePartsRow : OpenClaim := { program := "ytgmapdcdmomioaagreatdoor", sum := "05a36f89ebc40cc7ec2c1bf7b6d720709b110a0ad6582798663236d9b12881d3", func := "athanor/athanorlaw14.ScopeParts", spec := "scopeParts", inPlace := ["internal/bytealg.IndexByteString", "internal/abi.NoEscape", "internal/bytealg.MakeNoZero"], unfollowed := true, recurses := true, named := ["strconv.ErrSyntax", "strconv.ErrRange", "internal/strconv.uint64pow10", "math/bits.deBruijn32tab", "math/bits.deBruijn64tab"], loops := true, apart := false, laid := [("math/bits.deBruijn32tab", laid_math_bits_deBruijn32tab), ("math/bits.deBruijn64tab", laid_math_bits_deBruijn64tab), ("internal/strconv.uint64pow10", laid_internal_strconv_uint64pow10), ("strconv.ErrRange", laid_strconv_ErrRange), ("strconv.ErrSyntax", laid_strconv_ErrSyntax)] }
def ScopePartsSaid : Prop := scopePartsRow.holds Tryz.pinned (OpenSpec.ofChange scopePartsSpec)

/-- ITS FALSE NEIGHBOUR: 'it returns false'. Refute it at one input. -/
def scopePartsWrong : ChangeSpec := { name := "scopeParts", fn := fun _ => fun
  | [d1, d2, d3] => { results := [.lit (.bool false)], args := [d1, d2, d3] }
  | _ => none }
def ScopePartsWrongFalsely : Prop := scopePartsRow.holds Tryz.pinned (OpenSpec.ofChange scopePartsWrong)

/- THE SECOND FORM. 'bulk': how many values and letters a reading holds, each counted each time it is reached (what is shared counts as often as it is met; a slice's spare places count too). A statement '..UptoSaid' is the law's where the arguments, and the package variables that the reading takes, are together of bulk at most 1048576: NARROWER than '..Said'. Prove '..Said' where nothing that the law and all that it calls make is longer than what came in: it says more and counts as full. Else prove '..UptoSaid'. A law counts once. -/
mutual
def uptoBulk {H : Type} : DataW H → Nat
  | .lit (.string bytes) => bytes.length + 1
  | .lit _ => 1
  | .nil => 1
  | .ptr d => uptoBulk d + 1
  | .slice elems spare => uptoBulkAll elems + uptoBulkAll spare + 1
  | .agg parts => uptoBulkAll parts + 1
  | .iface _ d => uptoBulk d + 1
  | .map entries => uptoBulkEntries entries + 1
  | .held _ => 1
def uptoBulkAll {H : Type} : List (DataW H) → Nat
  | [] => 0
  | d :: r => uptoBulk d + uptoBulkAll r
def uptoBulkEntries {H : Type} : List (Lit × DataW H) → Nat
  | [] => 0
  | x :: r => uptoBulkEntry x + uptoBulkEntries r
def uptoBulkEntry {H : Type} : Lit × DataW H → Nat
  | (.string bytes, d) => bytes.length + uptoBulk d + 1
  | (_, d) => uptoBulk d + 1
 end
def uptoSmall : (H : Type) → List (DataW H) → Bool := fun _ ds => decide (uptoBulkAll ds ≤ 1048576)
def OpenSpec.upto (s : _root_.Go.ChangeSpec) : _root_.Go.OpenSpec := { _root_.Go.OpenSpec.ofChange s with cond := some uptoSmall }

/-- 'athanorlaw12.ParseReads', WHERE WHAT IT READS IS OF BULK AT MOST 1048576: true; the input reads as it did. -/
def parseReadsUptoRow : OpenClaim := { program := "ytgmapdcdmomioaagreatdoor", sum := "05a36f89ebc40cc7ec2c1bf7b6d720709b110a0ad6582798663236d9b12881d3", func := "athanor/athanorlaw12.ParseReads", spec := "parseReads", inPlace := ["internal/bytealg.IndexByteString"], unfollowed := true, recurses := true, named := ["strconv.ErrSyntax", "strconv.ErrRange", "internal/strconv.uint64pow10", "math/bits.deBruijn32tab", "math/bits.deBruijn64tab"], apart := false, laid := [("math/bits.deBruijn32tab", laid_math_bits_deBruijn32tab), ("math/bits.deBruijn64tab", laid_math_bits_deBruijn64tab), ("internal/strconv.uint64pow10", laid_internal_strconv_uint64pow10), ("strconv.ErrRange", laid_strconv_ErrRange), ("strconv.ErrSyntax", laid_strconv_ErrSyntax)], narrowed := true }
def ParseReadsUptoSaid : Prop := parseReadsUptoRow.holds Tryz.pinned (OpenSpec.upto parseReadsSpec)

/-- 'athanorlaw12.ParseBrackets', WHERE WHAT IT READS IS OF BULK AT MOST 1048576: true; the input reads as it did. -/
def parseBracketsUptoRow : OpenClaim := { program := "ytgmapdcdmomioaagreatdoor", sum := "05a36f89ebc40cc7ec2c1bf7b6d720709b110a0ad6582798663236d9b12881d3", func := "athanor/athanorlaw12.ParseBrackets", spec := "parseBrackets", inPlace := ["internal/bytealg.IndexByteString"], unfollowed := true, recurses := true, named := ["strconv.ErrSyntax", "strconv.ErrRange", "internal/strconv.uint64pow10", "math/bits.deBruijn32tab", "math/bits.deBruijn64tab"], apart := false, laid := [("math/bits.deBruijn32tab", laid_math_bits_deBruijn32tab), ("math/bits.deBruijn64tab", laid_math_bits_deBruijn64tab), ("internal/strconv.uint64pow10", laid_internal_strconv_uint64pow10), ("strconv.ErrRange", laid_strconv_ErrRange), ("strconv.ErrSyntax", laid_strconv_ErrSyntax)], narrowed := true }
def ParseBracketsUptoSaid : Prop := parseBracketsUptoRow.holds Tryz.pinned (OpenSpec.upto parseBracketsSpec)

/-- 'athanorlaw12.ParseSpread', WHERE WHAT IT READS IS OF BULK AT MOST 1048576: true; the input reads as it did. -/
def parseSpreadUptoRow : OpenClaim := { program := "ytgmapdcdmomioaagreatdoor", sum := "05a36f89ebc40cc7ec2c1bf7b6d720709b110a0ad6582798663236d9b12881d3", func := "athanor/athanorlaw12.ParseSpread", spec := "parseSpread", inPlace := ["internal/bytealg.IndexByteString"], unfollowed := true, recurses := true, named := ["strconv.ErrSyntax", "strconv.ErrRange", "internal/strconv.uint64pow10", "math/bits.deBruijn32tab", "math/bits.deBruijn64tab"], apart := false, laid := [("math/bits.deBruijn32tab", laid_math_bits_deBruijn32tab), ("math/bits.deBruijn64tab", laid_math_bits_deBruijn64tab), ("internal/strconv.uint64pow10", laid_internal_strconv_uint64pow10), ("strconv.ErrRange", laid_strconv_ErrRange), ("strconv.ErrSyntax", laid_strconv_ErrSyntax)], narrowed := true }
def ParseSpreadUptoSaid : Prop := parseSpreadUptoRow.holds Tryz.pinned (OpenSpec.upto parseSpreadSpec)

/-- 'athanorlaw12.ParseSame', WHERE WHAT IT READS IS OF BULK AT MOST 1048576: true; the input reads as it did. -/
def parseSameUptoRow : OpenClaim := { program := "ytgmapdcdmomioaagreatdoor", sum := "05a36f89ebc40cc7ec2c1bf7b6d720709b110a0ad6582798663236d9b12881d3", func := "athanor/athanorlaw12.ParseSame", spec := "parseSame", inPlace := ["internal/bytealg.IndexByteString"], unfollowed := true, recurses := true, named := ["strconv.ErrSyntax", "strconv.ErrRange", "internal/strconv.uint64pow10", "math/bits.deBruijn32tab", "math/bits.deBruijn64tab"], loops := true, apart := false, laid := [("math/bits.deBruijn32tab", laid_math_bits_deBruijn32tab), ("math/bits.deBruijn64tab", laid_math_bits_deBruijn64tab), ("internal/strconv.uint64pow10", laid_internal_strconv_uint64pow10), ("strconv.ErrRange", laid_strconv_ErrRange), ("strconv.ErrSyntax", laid_strconv_ErrSyntax)], narrowed := true }
def ParseSameUptoSaid : Prop := parseSameUptoRow.holds Tryz.pinned (OpenSpec.upto parseSameSpec)

/-- 'athanorlaw12.ParseChecks', WHERE WHAT IT READS IS OF BULK AT MOST 1048576: true; the input reads as it did. -/
def parseChecksUptoRow : OpenClaim := { program := "ytgmapdcdmomioaagreatdoor", sum := "05a36f89ebc40cc7ec2c1bf7b6d720709b110a0ad6582798663236d9b12881d3", func := "athanor/athanorlaw12.ParseChecks", spec := "parseChecks", inPlace := ["internal/bytealg.IndexByteString", "internal/abi.NoEscape", "internal/bytealg.MakeNoZero"], unfollowed := true, recurses := true, named := ["strconv.ErrSyntax", "strconv.ErrRange", "internal/strconv.uint64pow10", "math/bits.deBruijn32tab", "math/bits.deBruijn64tab"], loops := true, apart := false, laid := [("math/bits.deBruijn32tab", laid_math_bits_deBruijn32tab), ("math/bits.deBruijn64tab", laid_math_bits_deBruijn64tab), ("internal/strconv.uint64pow10", laid_internal_strconv_uint64pow10), ("strconv.ErrRange", laid_strconv_ErrRange), ("strconv.ErrSyntax", laid_strconv_ErrSyntax)], narrowed := true }
def ParseChecksUptoSaid : Prop := parseChecksUptoRow.holds Tryz.pinned (OpenSpec.upto parseChecksSpec)

/-- 'athanorlaw12.ParseTakes', WHERE WHAT IT READS IS OF BULK AT MOST 1048576: true; the input reads as it did. -/
def parseTakesUptoRow : OpenClaim := { program := "ytgmapdcdmomioaagreatdoor", sum := "05a36f89ebc40cc7ec2c1bf7b6d720709b110a0ad6582798663236d9b12881d3", func := "athanor/athanorlaw12.ParseTakes", spec := "parseTakes", inPlace := ["internal/bytealg.IndexByteString", "internal/abi.NoEscape", "internal/bytealg.MakeNoZero"], unfollowed := true, recurses := true, named := ["strconv.ErrSyntax", "strconv.ErrRange", "internal/strconv.uint64pow10", "math/bits.deBruijn32tab", "math/bits.deBruijn64tab"], apart := false, laid := [("math/bits.deBruijn32tab", laid_math_bits_deBruijn32tab), ("math/bits.deBruijn64tab", laid_math_bits_deBruijn64tab), ("internal/strconv.uint64pow10", laid_internal_strconv_uint64pow10), ("strconv.ErrRange", laid_strconv_ErrRange), ("strconv.ErrSyntax", laid_strconv_ErrSyntax)], narrowed := true }
def ParseTakesUptoSaid : Prop := parseTakesUptoRow.holds Tryz.pinned (OpenSpec.upto parseTakesSpec)

/-- 'athanorlaw14.ScopeChecks', WHERE WHAT IT READS IS OF BULK AT MOST 1048576: true; the input reads as it did. -/
def scopeChecksUptoRow : OpenClaim := { program := "ytgmapdcdmomioaagreatdoor", sum := "05a36f89ebc40cc7ec2c1bf7b6d720709b110a0ad6582798663236d9b12881d3", func := "athanor/athanorlaw14.ScopeChecks", spec := "scopeChecks", inPlace := ["internal/bytealg.IndexByteString", "internal/abi.NoEscape", "internal/bytealg.MakeNoZero"], unfollowed := true, recurses := true, named := ["strconv.ErrSyntax", "strconv.ErrRange", "internal/strconv.uint64pow10", "math/bits.deBruijn32tab", "math/bits.deBruijn64tab"], loops := true, apart := false, laid := [("math/bits.deBruijn32tab", laid_math_bits_deBruijn32tab), ("math/bits.deBruijn64tab", laid_math_bits_deBruijn64tab), ("internal/strconv.uint64pow10", laid_internal_strconv_uint64pow10), ("strconv.ErrRange", laid_strconv_ErrRange), ("strconv.ErrSyntax", laid_strconv_ErrSyntax)], narrowed := true }
def ScopeChecksUptoSaid : Prop := scopeChecksUptoRow.holds Tryz.pinned (OpenSpec.upto scopeChecksSpec)

/-- 'athanorlaw14.ScopeFinds', WHERE WHAT IT READS IS OF BULK AT MOST 1048576: true; the input reads as it did. -/
def scopeFindsUptoRow : OpenClaim := { program := "ytgmapdcdmomioaagreatdoor", sum := "05a36f89ebc40cc7ec2c1bf7b6d720709b110a0ad6582798663236d9b12881d3", func := "athanor/athanorlaw14.ScopeFinds", spec := "scopeFinds", inPlace := ["internal/bytealg.IndexByteString", "internal/abi.NoEscape", "internal/bytealg.MakeNoZero"], unfollowed := true, recurses := true, named := ["strconv.ErrSyntax", "strconv.ErrRange", "internal/strconv.uint64pow10", "math/bits.deBruijn32tab", "math/bits.deBruijn64tab"], loops := true, apart := false, laid := [("math/bits.deBruijn32tab", laid_math_bits_deBruijn32tab), ("math/bits.deBruijn64tab", laid_math_bits_deBruijn64tab), ("internal/strconv.uint64pow10", laid_internal_strconv_uint64pow10), ("strconv.ErrRange", laid_strconv_ErrRange), ("strconv.ErrSyntax", laid_strconv_ErrSyntax)], narrowed := true }
def ScopeFindsUptoSaid : Prop := scopeFindsUptoRow.holds Tryz.pinned (OpenSpec.upto scopeFindsSpec)

/-- 'athanorlaw14.ScopeFree', WHERE WHAT IT READS IS OF BULK AT MOST 1048576: true; the input reads as it did. -/
def scopeFreeUptoRow : OpenClaim := { program := "ytgmapdcdmomioaagreatdoor", sum := "05a36f89ebc40cc7ec2c1bf7b6d720709b110a0ad6582798663236d9b12881d3", func := "athanor/athanorlaw14.ScopeFree", spec := "scopeFree", inPlace := ["internal/bytealg.IndexByteString", "internal/abi.NoEscape", "internal/bytealg.MakeNoZero"], unfollowed := true, recurses := true, named := ["strconv.ErrSyntax", "strconv.ErrRange", "internal/strconv.uint64pow10", "math/bits.deBruijn32tab", "math/bits.deBruijn64tab"], loops := true, apart := false, laid := [("math/bits.deBruijn32tab", laid_math_bits_deBruijn32tab), ("math/bits.deBruijn64tab", laid_math_bits_deBruijn64tab), ("internal/strconv.uint64pow10", laid_internal_strconv_uint64pow10), ("strconv.ErrRange", laid_strconv_ErrRange), ("strconv.ErrSyntax", laid_strconv_ErrSyntax)], narrowed := true }
def ScopeFreeUptoSaid : Prop := scopeFreeUptoRow.holds Tryz.pinned (OpenSpec.upto scopeFreeSpec)

/-- 'athanorlaw14.ScopeClosed', WHERE WHAT IT READS IS OF BULK AT MOST 1048576: true; the input reads as it did. -/
def scopeClosedUptoRow : OpenClaim := { program := "ytgmapdcdmomioaagreatdoor", sum := "05a36f89ebc40cc7ec2c1bf7b6d720709b110a0ad6582798663236d9b12881d3", func := "athanor/athanorlaw14.ScopeClosed", spec := "scopeClosed", inPlace := ["internal/bytealg.IndexByteString", "internal/abi.NoEscape", "internal/bytealg.MakeNoZero"], unfollowed := true, recurses := true, named := ["strconv.ErrSyntax", "strconv.ErrRange", "internal/strconv.uint64pow10", "math/bits.deBruijn32tab", "math/bits.deBruijn64tab"], loops := true, apart := false, laid := [("math/bits.deBruijn32tab", laid_math_bits_deBruijn32tab), ("math/bits.deBruijn64tab", laid_math_bits_deBruijn64tab), ("internal/strconv.uint64pow10", laid_internal_strconv_uint64pow10), ("strconv.ErrRange", laid_strconv_ErrRange), ("strconv.ErrSyntax", laid_strconv_ErrSyntax)], narrowed := true }
def ScopeClosedUptoSaid : Prop := scopeClosedUptoRow.holds Tryz.pinned (OpenSpec.upto scopeClosedSpec)

/-- 'athanorlaw14.ScopeRenames', WHERE WHAT IT READS IS OF BULK AT MOST 1048576: true; the input reads as it did. -/
def scopeRenamesUptoRow : OpenClaim := { program := "ytgmapdcdmomioaagreatdoor", sum := "05a36f89ebc40cc7ec2c1bf7b6d720709b110a0ad6582798663236d9b12881d3", func := "athanor/athanorlaw14.ScopeRenames", spec := "scopeRenames", inPlace := ["internal/bytealg.IndexByteString", "internal/abi.NoEscape", "internal/bytealg.MakeNoZero"], unfollowed := true, recurses := true, named := ["strconv.ErrSyntax", "strconv.ErrRange", "internal/strconv.uint64pow10", "math/bits.deBruijn32tab", "math/bits.deBruijn64tab"], loops := true, apart := false, laid := [("math/bits.deBruijn32tab", laid_math_bits_deBruijn32tab), ("math/bits.deBruijn64tab", laid_math_bits_deBruijn64tab), ("internal/strconv.uint64pow10", laid_internal_strconv_uint64pow10), ("strconv.ErrRange", laid_strconv_ErrRange), ("strconv.ErrSyntax", laid_strconv_ErrSyntax)], narrowed := true }
def ScopeRenamesUptoSaid : Prop := scopeRenamesUptoRow.holds Tryz.pinned (OpenSpec.upto scopeRenamesSpec)

/-- 'athanorlaw14.ScopeParts', WHERE WHAT IT READS IS OF BULK AT MOST 1048576: true; the input reads as it did. -/
def scopePartsUptoRow : OpenClaim := { program := "ytgmapdcdmomioaagreatdoor", sum := "05a36f89ebc40cc7ec2c1bf7b6d720709b110a0ad6582798663236d9b12881d3", func := "athanor/athanorlaw14.ScopeParts", spec := "scopeParts", inPlace := ["internal/bytealg.IndexByteString", "internal/abi.NoEscape", "internal/bytealg.MakeNoZero"], unfollowed := true, recurses := true, named := ["strconv.ErrSyntax", "strconv.ErrRange", "internal/strconv.uint64pow10", "math/bits.deBruijn32tab", "math/bits.deBruijn64tab"], loops := true, apart := false, laid := [("math/bits.deBruijn32tab", laid_math_bits_deBruijn32tab), ("math/bits.deBruijn64tab", laid_math_bits_deBruijn64tab), ("internal/strconv.uint64pow10", laid_internal_strconv_uint64pow10), ("strconv.ErrRange", laid_strconv_ErrRange), ("strconv.ErrSyntax", laid_strconv_ErrSyntax)], narrowed := true }
def ScopePartsUptoSaid : Prop := scopePartsUptoRow.holds Tryz.pinned (OpenSpec.upto scopePartsSpec)

end Rows
end Go.Proofs.YtgmapdcdmomioaaGreatDoor
