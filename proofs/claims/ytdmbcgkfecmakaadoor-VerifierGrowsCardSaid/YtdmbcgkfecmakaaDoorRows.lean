/-
  NARROWER THAN 'FOR EVERY INPUT', by the rows' own cells (each row's printed sentence says how): VerifierDepths: laid · VerifierLocal: laid · VerifierReaches: laid · BytecodeNames: laid · BytecodeTexts: laid · BytecodeInstructions: laid · BytecodeBounds: laid · VerifierChecks: laid · VerifierSafe: laid · VerifierGrows: laid · VerifierLimits: laid · BytecodeEqual: laid.
  DERIVED. THE GIVEN ROWS OF THIS SEAT. 12 by the template 'for every input the law returns true; each argument reads behind the call as it read before'; 0 by the template 'total and deterministic' (their statements: YtdmbcgkfecmakaaDoorTotals.lean).
  GIVEN WITH THE SEED: the statements are not yours to turn. If you find one false, say at which input.
  Laid BY PROGRAM, IN A SANDBOX (cutbox-rows.mjs): the forced cells as the released guide's own fill.sh prints them over the translation 62f4d6b3adedfb1d… (all of the seat's roots in one cut). By AI agents, Wed Nov 11 2026. No macro, syntax, notation, axiom, sorry.
-/
import Derived.Test.YtdmbcgkfecmakaaDoorChecked
import GoSem.Claim
import GoSem.ClaimJoined
import GoSem.ClaimMapViews
import Derived.JoinedTies
import Derived.KernelRfl
namespace Go.Proofs.YtdmbcgkfecmakaaDoor
/- THE CELL 'sum', in the pinned program and in every row, IS THE sha256 OF THE DUMP (.gsa) THAT YtdmbcgkfecmakaaDoorProg.lean LOADS. Nothing in Lean hashes anything: it is a label: what it is worth is what the hold of that sum in a sandbox is worth. -/
noncomputable def Tryd.pinned : Pinned := { name := "ytdmbcgkfecmakaadoor", sum := "62f4d6b3adedfb1d6f9c8dfd67c2dd15c116bdc6fef5c20ded88ee1f91d03df2", checked := Tryd.checked }
namespace Rows
def none {H : Type} : Left H := { results := [], args := [] }

/- WHAT THE LISTED PACKAGE-LEVEL VARIABLES READ AS WHEN THE CALL BEGINS. Each datum BY PROGRAM (the guide's laid-datum.mjs) off the statement by which the dump's own 'gosem.cut.vars' lays the variable. In a bare row this is a premise. The card (YtdmbcgkfecmakaaDoorCards.lean) ties it to the program's text. -/
def laid_math_bits_deBruijn32tab {H : Type} : DataW H := .agg [.lit (.int .u8 0), .lit (.int .u8 1), .lit (.int .u8 28), .lit (.int .u8 2), .lit (.int .u8 29), .lit (.int .u8 14), .lit (.int .u8 24), .lit (.int .u8 3), .lit (.int .u8 30), .lit (.int .u8 22), .lit (.int .u8 20), .lit (.int .u8 15), .lit (.int .u8 25), .lit (.int .u8 17), .lit (.int .u8 4), .lit (.int .u8 8), .lit (.int .u8 31), .lit (.int .u8 27), .lit (.int .u8 13), .lit (.int .u8 23), .lit (.int .u8 21), .lit (.int .u8 19), .lit (.int .u8 16), .lit (.int .u8 7), .lit (.int .u8 26), .lit (.int .u8 12), .lit (.int .u8 18), .lit (.int .u8 6), .lit (.int .u8 11), .lit (.int .u8 5), .lit (.int .u8 10), .lit (.int .u8 9)]
def laid_math_bits_deBruijn64tab {H : Type} : DataW H := .agg [.lit (.int .u8 0), .lit (.int .u8 1), .lit (.int .u8 56), .lit (.int .u8 2), .lit (.int .u8 57), .lit (.int .u8 49), .lit (.int .u8 28), .lit (.int .u8 3), .lit (.int .u8 61), .lit (.int .u8 58), .lit (.int .u8 42), .lit (.int .u8 50), .lit (.int .u8 38), .lit (.int .u8 29), .lit (.int .u8 17), .lit (.int .u8 4), .lit (.int .u8 62), .lit (.int .u8 47), .lit (.int .u8 59), .lit (.int .u8 36), .lit (.int .u8 45), .lit (.int .u8 43), .lit (.int .u8 51), .lit (.int .u8 22), .lit (.int .u8 53), .lit (.int .u8 39), .lit (.int .u8 33), .lit (.int .u8 30), .lit (.int .u8 24), .lit (.int .u8 18), .lit (.int .u8 12), .lit (.int .u8 5), .lit (.int .u8 63), .lit (.int .u8 55), .lit (.int .u8 48), .lit (.int .u8 27), .lit (.int .u8 60), .lit (.int .u8 41), .lit (.int .u8 37), .lit (.int .u8 16), .lit (.int .u8 46), .lit (.int .u8 35), .lit (.int .u8 44), .lit (.int .u8 21), .lit (.int .u8 52), .lit (.int .u8 32), .lit (.int .u8 23), .lit (.int .u8 11), .lit (.int .u8 54), .lit (.int .u8 26), .lit (.int .u8 40), .lit (.int .u8 15), .lit (.int .u8 34), .lit (.int .u8 20), .lit (.int .u8 31), .lit (.int .u8 10), .lit (.int .u8 25), .lit (.int .u8 14), .lit (.int .u8 19), .lit (.int .u8 9), .lit (.int .u8 13), .lit (.int .u8 8), .lit (.int .u8 7), .lit (.int .u8 6)]
def laid_internal_strconv_uint64pow10 {H : Type} : DataW H := .agg [.lit (.int .u64 1), .lit (.int .u64 10), .lit (.int .u64 100), .lit (.int .u64 1000), .lit (.int .u64 10000), .lit (.int .u64 100000), .lit (.int .u64 1000000), .lit (.int .u64 10000000), .lit (.int .u64 100000000), .lit (.int .u64 1000000000), .lit (.int .u64 10000000000), .lit (.int .u64 100000000000), .lit (.int .u64 1000000000000), .lit (.int .u64 10000000000000), .lit (.int .u64 100000000000000), .lit (.int .u64 1000000000000000), .lit (.int .u64 10000000000000000), .lit (.int .u64 100000000000000000), .lit (.int .u64 1000000000000000000), .lit (.int .u64 10000000000000000000)]
def laid_refmesh_bytecode_operators {H : Type} : DataW H := .agg [.lit (.string [43]), .lit (.string [45]), .lit (.string [42]), .lit (.string [47]), .lit (.string [37]), .lit (.string [61, 61]), .lit (.string [33, 61]), .lit (.string [60]), .lit (.string [60, 61]), .lit (.string [62]), .lit (.string [62, 61])]

/-- 'refmeshlaw43.VerifierDepths': WHATEVER THE INPUT: true; the input reads as it did. -/
def verifierDepthsSpec : ChangeSpec := { name := "verifierDepths", fn := fun _ => fun
  | [d] => { results := [.lit (.bool true)], args := [d] }
  | _ => none }
def verifierDepthsRow : OpenClaim := { program := "ytdmbcgkfecmakaadoor", sum := "62f4d6b3adedfb1d6f9c8dfd67c2dd15c116bdc6fef5c20ded88ee1f91d03df2", func := "refmesh/refmeshlaw43.VerifierDepths", spec := "verifierDepths", unfollowed := true, recurses := true, named := ["internal/strconv.uint64pow10", "math/bits.deBruijn32tab", "math/bits.deBruijn64tab", "refmesh/bytecode.operators"], apart := false, laid := [("math/bits.deBruijn32tab", laid_math_bits_deBruijn32tab), ("math/bits.deBruijn64tab", laid_math_bits_deBruijn64tab), ("internal/strconv.uint64pow10", laid_internal_strconv_uint64pow10), ("refmesh/bytecode.operators", laid_refmesh_bytecode_operators)] }
def VerifierDepthsSaid : Prop := verifierDepthsRow.holds Tryd.pinned (OpenSpec.ofChange verifierDepthsSpec)

/-- ITS FALSE NEIGHBOUR: 'it returns false'. Refute it at one input. -/
def verifierDepthsWrong : ChangeSpec := { name := "verifierDepths", fn := fun _ => fun
  | [d] => { results := [.lit (.bool false)], args := [d] }
  | _ => none }
def VerifierDepthsWrongFalsely : Prop := verifierDepthsRow.holds Tryd.pinned (OpenSpec.ofChange verifierDepthsWrong)

/-- 'refmeshlaw43.VerifierLocal': WHATEVER THE INPUT: true; the input reads as it did. -/
def verifierLocalSpec : ChangeSpec := { name := "verifierLocal", fn := fun _ => fun
  | [d] => { results := [.lit (.bool true)], args := [d] }
  | _ => none }
def verifierLocalRow : OpenClaim := { program := "ytdmbcgkfecmakaadoor", sum := "62f4d6b3adedfb1d6f9c8dfd67c2dd15c116bdc6fef5c20ded88ee1f91d03df2", func := "refmesh/refmeshlaw43.VerifierLocal", spec := "verifierLocal", unfollowed := true, recurses := true, named := ["internal/strconv.uint64pow10", "math/bits.deBruijn32tab", "math/bits.deBruijn64tab", "refmesh/bytecode.operators"], apart := false, laid := [("math/bits.deBruijn32tab", laid_math_bits_deBruijn32tab), ("math/bits.deBruijn64tab", laid_math_bits_deBruijn64tab), ("internal/strconv.uint64pow10", laid_internal_strconv_uint64pow10), ("refmesh/bytecode.operators", laid_refmesh_bytecode_operators)] }
def VerifierLocalSaid : Prop := verifierLocalRow.holds Tryd.pinned (OpenSpec.ofChange verifierLocalSpec)

/-- ITS FALSE NEIGHBOUR: 'it returns false'. Refute it at one input. -/
def verifierLocalWrong : ChangeSpec := { name := "verifierLocal", fn := fun _ => fun
  | [d] => { results := [.lit (.bool false)], args := [d] }
  | _ => none }
def VerifierLocalWrongFalsely : Prop := verifierLocalRow.holds Tryd.pinned (OpenSpec.ofChange verifierLocalWrong)

/-- 'refmeshlaw43.VerifierReaches': WHATEVER THE INPUT: true; the input reads as it did. -/
def verifierReachesSpec : ChangeSpec := { name := "verifierReaches", fn := fun _ => fun
  | [d] => { results := [.lit (.bool true)], args := [d] }
  | _ => none }
def verifierReachesRow : OpenClaim := { program := "ytdmbcgkfecmakaadoor", sum := "62f4d6b3adedfb1d6f9c8dfd67c2dd15c116bdc6fef5c20ded88ee1f91d03df2", func := "refmesh/refmeshlaw43.VerifierReaches", spec := "verifierReaches", unfollowed := true, recurses := true, named := ["internal/strconv.uint64pow10", "math/bits.deBruijn32tab", "math/bits.deBruijn64tab", "refmesh/bytecode.operators"], apart := false, laid := [("math/bits.deBruijn32tab", laid_math_bits_deBruijn32tab), ("math/bits.deBruijn64tab", laid_math_bits_deBruijn64tab), ("internal/strconv.uint64pow10", laid_internal_strconv_uint64pow10), ("refmesh/bytecode.operators", laid_refmesh_bytecode_operators)] }
def VerifierReachesSaid : Prop := verifierReachesRow.holds Tryd.pinned (OpenSpec.ofChange verifierReachesSpec)

/-- ITS FALSE NEIGHBOUR: 'it returns false'. Refute it at one input. -/
def verifierReachesWrong : ChangeSpec := { name := "verifierReaches", fn := fun _ => fun
  | [d] => { results := [.lit (.bool false)], args := [d] }
  | _ => none }
def VerifierReachesWrongFalsely : Prop := verifierReachesRow.holds Tryd.pinned (OpenSpec.ofChange verifierReachesWrong)

/-- 'refmeshlaw41.BytecodeNames': WHATEVER THE INPUT: true; the input reads as it did. -/
def bytecodeNamesSpec : ChangeSpec := { name := "bytecodeNames", fn := fun _ => fun
  | [d1, d2] => { results := [.lit (.bool true)], args := [d1, d2] }
  | _ => none }
def bytecodeNamesRow : OpenClaim := { program := "ytdmbcgkfecmakaadoor", sum := "62f4d6b3adedfb1d6f9c8dfd67c2dd15c116bdc6fef5c20ded88ee1f91d03df2", func := "refmesh/refmeshlaw41.BytecodeNames", spec := "bytecodeNames", inPlace := ["internal/abi.NoEscape", "internal/bytealg.MakeNoZero"], unfollowed := true, recurses := true, named := ["internal/strconv.uint64pow10", "math/bits.deBruijn32tab", "math/bits.deBruijn64tab", "refmesh/bytecode.operators"], apart := false, laid := [("math/bits.deBruijn32tab", laid_math_bits_deBruijn32tab), ("math/bits.deBruijn64tab", laid_math_bits_deBruijn64tab), ("internal/strconv.uint64pow10", laid_internal_strconv_uint64pow10), ("refmesh/bytecode.operators", laid_refmesh_bytecode_operators)] }
def BytecodeNamesSaid : Prop := bytecodeNamesRow.holds Tryd.pinned (OpenSpec.ofChange bytecodeNamesSpec)

/-- ITS FALSE NEIGHBOUR: 'it returns false'. Refute it at one input. -/
def bytecodeNamesWrong : ChangeSpec := { name := "bytecodeNames", fn := fun _ => fun
  | [d1, d2] => { results := [.lit (.bool false)], args := [d1, d2] }
  | _ => none }
def BytecodeNamesWrongFalsely : Prop := bytecodeNamesRow.holds Tryd.pinned (OpenSpec.ofChange bytecodeNamesWrong)

/-- 'refmeshlaw41.BytecodeTexts': WHATEVER THE INPUT: true; the input reads as it did. -/
def bytecodeTextsSpec : ChangeSpec := { name := "bytecodeTexts", fn := fun _ => fun
  | [d] => { results := [.lit (.bool true)], args := [d] }
  | _ => none }
def bytecodeTextsRow : OpenClaim := { program := "ytdmbcgkfecmakaadoor", sum := "62f4d6b3adedfb1d6f9c8dfd67c2dd15c116bdc6fef5c20ded88ee1f91d03df2", func := "refmesh/refmeshlaw41.BytecodeTexts", spec := "bytecodeTexts", inPlace := ["internal/abi.NoEscape", "internal/bytealg.MakeNoZero"], unfollowed := true, recurses := true, named := ["internal/strconv.uint64pow10", "math/bits.deBruijn32tab", "math/bits.deBruijn64tab", "refmesh/bytecode.operators"], apart := false, laid := [("math/bits.deBruijn32tab", laid_math_bits_deBruijn32tab), ("math/bits.deBruijn64tab", laid_math_bits_deBruijn64tab), ("internal/strconv.uint64pow10", laid_internal_strconv_uint64pow10), ("refmesh/bytecode.operators", laid_refmesh_bytecode_operators)] }
def BytecodeTextsSaid : Prop := bytecodeTextsRow.holds Tryd.pinned (OpenSpec.ofChange bytecodeTextsSpec)

/-- ITS FALSE NEIGHBOUR: 'it returns false'. Refute it at one input. -/
def bytecodeTextsWrong : ChangeSpec := { name := "bytecodeTexts", fn := fun _ => fun
  | [d] => { results := [.lit (.bool false)], args := [d] }
  | _ => none }
def BytecodeTextsWrongFalsely : Prop := bytecodeTextsRow.holds Tryd.pinned (OpenSpec.ofChange bytecodeTextsWrong)

/-- 'refmeshlaw41.BytecodeInstructions': WHATEVER THE INPUT: true; the input reads as it did. -/
def bytecodeInstructionsSpec : ChangeSpec := { name := "bytecodeInstructions", fn := fun _ => fun
  | [d1, d2] => { results := [.lit (.bool true)], args := [d1, d2] }
  | _ => none }
def bytecodeInstructionsRow : OpenClaim := { program := "ytdmbcgkfecmakaadoor", sum := "62f4d6b3adedfb1d6f9c8dfd67c2dd15c116bdc6fef5c20ded88ee1f91d03df2", func := "refmesh/refmeshlaw41.BytecodeInstructions", spec := "bytecodeInstructions", inPlace := ["internal/abi.NoEscape", "internal/bytealg.MakeNoZero"], unfollowed := true, recurses := true, named := ["internal/strconv.uint64pow10", "math/bits.deBruijn32tab", "math/bits.deBruijn64tab", "refmesh/bytecode.operators"], apart := false, laid := [("math/bits.deBruijn32tab", laid_math_bits_deBruijn32tab), ("math/bits.deBruijn64tab", laid_math_bits_deBruijn64tab), ("internal/strconv.uint64pow10", laid_internal_strconv_uint64pow10), ("refmesh/bytecode.operators", laid_refmesh_bytecode_operators)] }
def BytecodeInstructionsSaid : Prop := bytecodeInstructionsRow.holds Tryd.pinned (OpenSpec.ofChange bytecodeInstructionsSpec)

/-- ITS FALSE NEIGHBOUR: 'it returns false'. Refute it at one input. -/
def bytecodeInstructionsWrong : ChangeSpec := { name := "bytecodeInstructions", fn := fun _ => fun
  | [d1, d2] => { results := [.lit (.bool false)], args := [d1, d2] }
  | _ => none }
def BytecodeInstructionsWrongFalsely : Prop := bytecodeInstructionsRow.holds Tryd.pinned (OpenSpec.ofChange bytecodeInstructionsWrong)

/-- 'refmeshlaw41.BytecodeBounds': WHATEVER THE INPUT: true; the input reads as it did. -/
def bytecodeBoundsSpec : ChangeSpec := { name := "bytecodeBounds", fn := fun _ => fun
  | [d] => { results := [.lit (.bool true)], args := [d] }
  | _ => none }
def bytecodeBoundsRow : OpenClaim := { program := "ytdmbcgkfecmakaadoor", sum := "62f4d6b3adedfb1d6f9c8dfd67c2dd15c116bdc6fef5c20ded88ee1f91d03df2", func := "refmesh/refmeshlaw41.BytecodeBounds", spec := "bytecodeBounds", inPlace := ["internal/abi.NoEscape", "internal/bytealg.MakeNoZero"], unfollowed := true, recurses := true, named := ["internal/strconv.uint64pow10", "math/bits.deBruijn32tab", "math/bits.deBruijn64tab", "refmesh/bytecode.operators"], apart := false, laid := [("math/bits.deBruijn32tab", laid_math_bits_deBruijn32tab), ("math/bits.deBruijn64tab", laid_math_bits_deBruijn64tab), ("internal/strconv.uint64pow10", laid_internal_strconv_uint64pow10), ("refmesh/bytecode.operators", laid_refmesh_bytecode_operators)] }
def BytecodeBoundsSaid : Prop := bytecodeBoundsRow.holds Tryd.pinned (OpenSpec.ofChange bytecodeBoundsSpec)

/-- ITS FALSE NEIGHBOUR: 'it returns false'. Refute it at one input. -/
def bytecodeBoundsWrong : ChangeSpec := { name := "bytecodeBounds", fn := fun _ => fun
  | [d] => { results := [.lit (.bool false)], args := [d] }
  | _ => none }
def BytecodeBoundsWrongFalsely : Prop := bytecodeBoundsRow.holds Tryd.pinned (OpenSpec.ofChange bytecodeBoundsWrong)

/-- 'refmeshlaw43.VerifierChecks': WHATEVER THE INPUT: true; the input reads as it did. -/
def verifierChecksSpec : ChangeSpec := { name := "verifierChecks", fn := fun _ => fun
  | [d] => { results := [.lit (.bool true)], args := [d] }
  | _ => none }
def verifierChecksRow : OpenClaim := { program := "ytdmbcgkfecmakaadoor", sum := "62f4d6b3adedfb1d6f9c8dfd67c2dd15c116bdc6fef5c20ded88ee1f91d03df2", func := "refmesh/refmeshlaw43.VerifierChecks", spec := "verifierChecks", unfollowed := true, recurses := true, named := ["internal/strconv.uint64pow10", "math/bits.deBruijn32tab", "math/bits.deBruijn64tab", "refmesh/bytecode.operators"], apart := false, laid := [("math/bits.deBruijn32tab", laid_math_bits_deBruijn32tab), ("math/bits.deBruijn64tab", laid_math_bits_deBruijn64tab), ("internal/strconv.uint64pow10", laid_internal_strconv_uint64pow10), ("refmesh/bytecode.operators", laid_refmesh_bytecode_operators)] }
def VerifierChecksSaid : Prop := verifierChecksRow.holds Tryd.pinned (OpenSpec.ofChange verifierChecksSpec)

/-- ITS FALSE NEIGHBOUR: 'it returns false'. Refute it at one input. -/
def verifierChecksWrong : ChangeSpec := { name := "verifierChecks", fn := fun _ => fun
  | [d] => { results := [.lit (.bool false)], args := [d] }
  | _ => none }
def VerifierChecksWrongFalsely : Prop := verifierChecksRow.holds Tryd.pinned (OpenSpec.ofChange verifierChecksWrong)

/-- 'refmeshlaw43.VerifierSafe': WHATEVER THE INPUT: true; the input reads as it did. -/
def verifierSafeSpec : ChangeSpec := { name := "verifierSafe", fn := fun _ => fun
  | [d1, d2, d3, d4] => { results := [.lit (.bool true)], args := [d1, d2, d3, d4] }
  | _ => none }
def verifierSafeRow : OpenClaim := { program := "ytdmbcgkfecmakaadoor", sum := "62f4d6b3adedfb1d6f9c8dfd67c2dd15c116bdc6fef5c20ded88ee1f91d03df2", func := "refmesh/refmeshlaw43.VerifierSafe", spec := "verifierSafe", unfollowed := true, recurses := true, named := ["internal/strconv.uint64pow10", "math/bits.deBruijn32tab", "math/bits.deBruijn64tab", "refmesh/bytecode.operators"], apart := false, laid := [("math/bits.deBruijn32tab", laid_math_bits_deBruijn32tab), ("math/bits.deBruijn64tab", laid_math_bits_deBruijn64tab), ("internal/strconv.uint64pow10", laid_internal_strconv_uint64pow10), ("refmesh/bytecode.operators", laid_refmesh_bytecode_operators)] }
def VerifierSafeSaid : Prop := verifierSafeRow.holds Tryd.pinned (OpenSpec.ofChange verifierSafeSpec)

/-- ITS FALSE NEIGHBOUR: 'it returns false'. Refute it at one input. -/
def verifierSafeWrong : ChangeSpec := { name := "verifierSafe", fn := fun _ => fun
  | [d1, d2, d3, d4] => { results := [.lit (.bool false)], args := [d1, d2, d3, d4] }
  | _ => none }
def VerifierSafeWrongFalsely : Prop := verifierSafeRow.holds Tryd.pinned (OpenSpec.ofChange verifierSafeWrong)

/-- 'refmeshlaw43.VerifierGrows': WHATEVER THE INPUT: true; the input reads as it did. -/
def verifierGrowsSpec : ChangeSpec := { name := "verifierGrows", fn := fun _ => fun
  | [d1, d2] => { results := [.lit (.bool true)], args := [d1, d2] }
  | _ => none }
def verifierGrowsRow : OpenClaim := { program := "ytdmbcgkfecmakaadoor", sum := "62f4d6b3adedfb1d6f9c8dfd67c2dd15c116bdc6fef5c20ded88ee1f91d03df2", func := "refmesh/refmeshlaw43.VerifierGrows", spec := "verifierGrows", unfollowed := true, recurses := true, named := ["internal/strconv.uint64pow10", "math/bits.deBruijn32tab", "math/bits.deBruijn64tab", "refmesh/bytecode.operators"], apart := false, laid := [("math/bits.deBruijn32tab", laid_math_bits_deBruijn32tab), ("math/bits.deBruijn64tab", laid_math_bits_deBruijn64tab), ("internal/strconv.uint64pow10", laid_internal_strconv_uint64pow10), ("refmesh/bytecode.operators", laid_refmesh_bytecode_operators)] }
def VerifierGrowsSaid : Prop := verifierGrowsRow.holds Tryd.pinned (OpenSpec.ofChange verifierGrowsSpec)

/-- ITS FALSE NEIGHBOUR: 'it returns false'. Refute it at one input. -/
def verifierGrowsWrong : ChangeSpec := { name := "verifierGrows", fn := fun _ => fun
  | [d1, d2] => { results := [.lit (.bool false)], args := [d1, d2] }
  | _ => none }
def VerifierGrowsWrongFalsely : Prop := verifierGrowsRow.holds Tryd.pinned (OpenSpec.ofChange verifierGrowsWrong)

/-- 'refmeshlaw43.VerifierLimits': WHATEVER THE INPUT: true; the input reads as it did. -/
def verifierLimitsSpec : ChangeSpec := { name := "verifierLimits", fn := fun _ => fun
  | [d1, d2, d3, d4, d5] => { results := [.lit (.bool true)], args := [d1, d2, d3, d4, d5] }
  | _ => none }
def verifierLimitsRow : OpenClaim := { program := "ytdmbcgkfecmakaadoor", sum := "62f4d6b3adedfb1d6f9c8dfd67c2dd15c116bdc6fef5c20ded88ee1f91d03df2", func := "refmesh/refmeshlaw43.VerifierLimits", spec := "verifierLimits", unfollowed := true, recurses := true, named := ["internal/strconv.uint64pow10", "math/bits.deBruijn32tab", "math/bits.deBruijn64tab", "refmesh/bytecode.operators"], apart := false, laid := [("math/bits.deBruijn32tab", laid_math_bits_deBruijn32tab), ("math/bits.deBruijn64tab", laid_math_bits_deBruijn64tab), ("internal/strconv.uint64pow10", laid_internal_strconv_uint64pow10), ("refmesh/bytecode.operators", laid_refmesh_bytecode_operators)] }
def VerifierLimitsSaid : Prop := verifierLimitsRow.holds Tryd.pinned (OpenSpec.ofChange verifierLimitsSpec)

/-- ITS FALSE NEIGHBOUR: 'it returns false'. Refute it at one input. -/
def verifierLimitsWrong : ChangeSpec := { name := "verifierLimits", fn := fun _ => fun
  | [d1, d2, d3, d4, d5] => { results := [.lit (.bool false)], args := [d1, d2, d3, d4, d5] }
  | _ => none }
def VerifierLimitsWrongFalsely : Prop := verifierLimitsRow.holds Tryd.pinned (OpenSpec.ofChange verifierLimitsWrong)

/-- 'refmeshlaw41.BytecodeEqual': WHATEVER THE INPUT: true; the input reads as it did. -/
def bytecodeEqualSpec : ChangeSpec := { name := "bytecodeEqual", fn := fun _ => fun
  | [d1, d2] => { results := [.lit (.bool true)], args := [d1, d2] }
  | _ => none }
def bytecodeEqualRow : OpenClaim := { program := "ytdmbcgkfecmakaadoor", sum := "62f4d6b3adedfb1d6f9c8dfd67c2dd15c116bdc6fef5c20ded88ee1f91d03df2", func := "refmesh/refmeshlaw41.BytecodeEqual", spec := "bytecodeEqual", inPlace := ["internal/abi.NoEscape", "internal/bytealg.MakeNoZero"], unfollowed := true, recurses := true, named := ["internal/strconv.uint64pow10", "math/bits.deBruijn32tab", "math/bits.deBruijn64tab", "refmesh/bytecode.operators"], apart := false, laid := [("math/bits.deBruijn32tab", laid_math_bits_deBruijn32tab), ("math/bits.deBruijn64tab", laid_math_bits_deBruijn64tab), ("internal/strconv.uint64pow10", laid_internal_strconv_uint64pow10), ("refmesh/bytecode.operators", laid_refmesh_bytecode_operators)] }
def BytecodeEqualSaid : Prop := bytecodeEqualRow.holds Tryd.pinned (OpenSpec.ofChange bytecodeEqualSpec)

/-- ITS FALSE NEIGHBOUR: 'it returns false'. Refute it at one input. -/
def bytecodeEqualWrong : ChangeSpec := { name := "bytecodeEqual", fn := fun _ => fun
  | [d1, d2] => { results := [.lit (.bool false)], args := [d1, d2] }
  | _ => none }
def BytecodeEqualWrongFalsely : Prop := bytecodeEqualRow.holds Tryd.pinned (OpenSpec.ofChange bytecodeEqualWrong)

/- THE SECOND FORM. 'bulk': how many values and letters a reading holds, each counted each time it is reached (what is shared counts as often as it is met; a slice's spare places count too). A statement '..UptoSaid' is the law's where the arguments, and the package variables that the reading takes, are together of bulk at most 1048576: NARROWER than '..Said'. Prove '..Said' where nothing that the law and all that it calls make is longer than what came in: it says more and counts as full. Else prove '..UptoSaid'. A law counts once. -/
mutual
def uptoBulk {H : Type} : DataW H → Nat
  | .lit (.string bytes) => bytes.length + 1
  | .lit _ => 1
  | .nil => 1
  | .ptr d => uptoBulk d + 1
  | .slice elems spare => uptoBulkAll elems + uptoBulkAll spare + 1
  | .agg parts => uptoBulkAll parts + 1
  | .iface _ d => uptoBulk d + 1
  | .map entries => uptoBulkEntries entries + 1
  | .held _ => 1
def uptoBulkAll {H : Type} : List (DataW H) → Nat
  | [] => 0
  | d :: r => uptoBulk d + uptoBulkAll r
def uptoBulkEntries {H : Type} : List (Lit × DataW H) → Nat
  | [] => 0
  | x :: r => uptoBulkEntry x + uptoBulkEntries r
def uptoBulkEntry {H : Type} : Lit × DataW H → Nat
  | (.string bytes, d) => bytes.length + uptoBulk d + 1
  | (_, d) => uptoBulk d + 1
 end
def uptoSmall : (H : Type) → List (DataW H) → Bool := fun _ ds => decide (uptoBulkAll ds ≤ 1048576)
def OpenSpec.upto (s : _root_.Go.ChangeSpec) : _root_.Go.OpenSpec := { _root_.Go.OpenSpec.ofChange s with cond := some uptoSmall }

/-- 'refmeshlaw43.VerifierDepths', WHERE WHAT IT READS IS OF BULK AT MOST 1048576: true; the input reads as it did. -/
def verifierDepthsUptoRow : OpenClaim := { program := "ytdmbcgkfecmakaadoor", sum := "62f4d6b3adedfb1d6f9c8dfd67c2dd15c116bdc6fef5c20ded88ee1f91d03df2", func := "refmesh/refmeshlaw43.VerifierDepths", spec := "verifierDepths", unfollowed := true, recurses := true, named := ["internal/strconv.uint64pow10", "math/bits.deBruijn32tab", "math/bits.deBruijn64tab", "refmesh/bytecode.operators"], apart := false, laid := [("math/bits.deBruijn32tab", laid_math_bits_deBruijn32tab), ("math/bits.deBruijn64tab", laid_math_bits_deBruijn64tab), ("internal/strconv.uint64pow10", laid_internal_strconv_uint64pow10), ("refmesh/bytecode.operators", laid_refmesh_bytecode_operators)], narrowed := true }
def VerifierDepthsUptoSaid : Prop := verifierDepthsUptoRow.holds Tryd.pinned (OpenSpec.upto verifierDepthsSpec)

/-- 'refmeshlaw43.VerifierLocal', WHERE WHAT IT READS IS OF BULK AT MOST 1048576: true; the input reads as it did. -/
def verifierLocalUptoRow : OpenClaim := { program := "ytdmbcgkfecmakaadoor", sum := "62f4d6b3adedfb1d6f9c8dfd67c2dd15c116bdc6fef5c20ded88ee1f91d03df2", func := "refmesh/refmeshlaw43.VerifierLocal", spec := "verifierLocal", unfollowed := true, recurses := true, named := ["internal/strconv.uint64pow10", "math/bits.deBruijn32tab", "math/bits.deBruijn64tab", "refmesh/bytecode.operators"], apart := false, laid := [("math/bits.deBruijn32tab", laid_math_bits_deBruijn32tab), ("math/bits.deBruijn64tab", laid_math_bits_deBruijn64tab), ("internal/strconv.uint64pow10", laid_internal_strconv_uint64pow10), ("refmesh/bytecode.operators", laid_refmesh_bytecode_operators)], narrowed := true }
def VerifierLocalUptoSaid : Prop := verifierLocalUptoRow.holds Tryd.pinned (OpenSpec.upto verifierLocalSpec)

/-- 'refmeshlaw43.VerifierReaches', WHERE WHAT IT READS IS OF BULK AT MOST 1048576: true; the input reads as it did. -/
def verifierReachesUptoRow : OpenClaim := { program := "ytdmbcgkfecmakaadoor", sum := "62f4d6b3adedfb1d6f9c8dfd67c2dd15c116bdc6fef5c20ded88ee1f91d03df2", func := "refmesh/refmeshlaw43.VerifierReaches", spec := "verifierReaches", unfollowed := true, recurses := true, named := ["internal/strconv.uint64pow10", "math/bits.deBruijn32tab", "math/bits.deBruijn64tab", "refmesh/bytecode.operators"], apart := false, laid := [("math/bits.deBruijn32tab", laid_math_bits_deBruijn32tab), ("math/bits.deBruijn64tab", laid_math_bits_deBruijn64tab), ("internal/strconv.uint64pow10", laid_internal_strconv_uint64pow10), ("refmesh/bytecode.operators", laid_refmesh_bytecode_operators)], narrowed := true }
def VerifierReachesUptoSaid : Prop := verifierReachesUptoRow.holds Tryd.pinned (OpenSpec.upto verifierReachesSpec)

/-- 'refmeshlaw41.BytecodeNames', WHERE WHAT IT READS IS OF BULK AT MOST 1048576: true; the input reads as it did. -/
def bytecodeNamesUptoRow : OpenClaim := { program := "ytdmbcgkfecmakaadoor", sum := "62f4d6b3adedfb1d6f9c8dfd67c2dd15c116bdc6fef5c20ded88ee1f91d03df2", func := "refmesh/refmeshlaw41.BytecodeNames", spec := "bytecodeNames", inPlace := ["internal/abi.NoEscape", "internal/bytealg.MakeNoZero"], unfollowed := true, recurses := true, named := ["internal/strconv.uint64pow10", "math/bits.deBruijn32tab", "math/bits.deBruijn64tab", "refmesh/bytecode.operators"], apart := false, laid := [("math/bits.deBruijn32tab", laid_math_bits_deBruijn32tab), ("math/bits.deBruijn64tab", laid_math_bits_deBruijn64tab), ("internal/strconv.uint64pow10", laid_internal_strconv_uint64pow10), ("refmesh/bytecode.operators", laid_refmesh_bytecode_operators)], narrowed := true }
def BytecodeNamesUptoSaid : Prop := bytecodeNamesUptoRow.holds Tryd.pinned (OpenSpec.upto bytecodeNamesSpec)

/-- 'refmeshlaw41.BytecodeTexts', WHERE WHAT IT READS IS OF BULK AT MOST 1048576: true; the input reads as it did. -/
def bytecodeTextsUptoRow : OpenClaim := { program := "ytdmbcgkfecmakaadoor", sum := "62f4d6b3adedfb1d6f9c8dfd67c2dd15c116bdc6fef5c20ded88ee1f91d03df2", func := "refmesh/refmeshlaw41.BytecodeTexts", spec := "bytecodeTexts", inPlace := ["internal/abi.NoEscape", "internal/bytealg.MakeNoZero"], unfollowed := true, recurses := true, named := ["internal/strconv.uint64pow10", "math/bits.deBruijn32tab", "math/bits.deBruijn64tab", "refmesh/bytecode.operators"], apart := false, laid := [("math/bits.deBruijn32tab", laid_math_bits_deBruijn32tab), ("math/bits.deBruijn64tab", laid_math_bits_deBruijn64tab), ("internal/strconv.uint64pow10", laid_internal_strconv_uint64pow10), ("refmesh/bytecode.operators", laid_refmesh_bytecode_operators)], narrowed := true }
def BytecodeTextsUptoSaid : Prop := bytecodeTextsUptoRow.holds Tryd.pinned (OpenSpec.upto bytecodeTextsSpec)

/-- 'refmeshlaw41.BytecodeInstructions', WHERE WHAT IT READS IS OF BULK AT MOST 1048576: true; the input reads as it did. -/
def bytecodeInstructionsUptoRow : OpenClaim := { program := "ytdmbcgkfecmakaadoor", sum := "62f4d6b3adedfb1d6f9c8dfd67c2dd15c116bdc6fef5c20ded88ee1f91d03df2", func := "refmesh/refmeshlaw41.BytecodeInstructions", spec := "bytecodeInstructions", inPlace := ["internal/abi.NoEscape", "internal/bytealg.MakeNoZero"], unfollowed := true, recurses := true, named := ["internal/strconv.uint64pow10", "math/bits.deBruijn32tab", "math/bits.deBruijn64tab", "refmesh/bytecode.operators"], apart := false, laid := [("math/bits.deBruijn32tab", laid_math_bits_deBruijn32tab), ("math/bits.deBruijn64tab", laid_math_bits_deBruijn64tab), ("internal/strconv.uint64pow10", laid_internal_strconv_uint64pow10), ("refmesh/bytecode.operators", laid_refmesh_bytecode_operators)], narrowed := true }
def BytecodeInstructionsUptoSaid : Prop := bytecodeInstructionsUptoRow.holds Tryd.pinned (OpenSpec.upto bytecodeInstructionsSpec)

/-- 'refmeshlaw41.BytecodeBounds', WHERE WHAT IT READS IS OF BULK AT MOST 1048576: true; the input reads as it did. -/
def bytecodeBoundsUptoRow : OpenClaim := { program := "ytdmbcgkfecmakaadoor", sum := "62f4d6b3adedfb1d6f9c8dfd67c2dd15c116bdc6fef5c20ded88ee1f91d03df2", func := "refmesh/refmeshlaw41.BytecodeBounds", spec := "bytecodeBounds", inPlace := ["internal/abi.NoEscape", "internal/bytealg.MakeNoZero"], unfollowed := true, recurses := true, named := ["internal/strconv.uint64pow10", "math/bits.deBruijn32tab", "math/bits.deBruijn64tab", "refmesh/bytecode.operators"], apart := false, laid := [("math/bits.deBruijn32tab", laid_math_bits_deBruijn32tab), ("math/bits.deBruijn64tab", laid_math_bits_deBruijn64tab), ("internal/strconv.uint64pow10", laid_internal_strconv_uint64pow10), ("refmesh/bytecode.operators", laid_refmesh_bytecode_operators)], narrowed := true }
def BytecodeBoundsUptoSaid : Prop := bytecodeBoundsUptoRow.holds Tryd.pinned (OpenSpec.upto bytecodeBoundsSpec)

/-- 'refmeshlaw43.VerifierChecks', WHERE WHAT IT READS IS OF BULK AT MOST 1048576: true; the input reads as it did. -/
def verifierChecksUptoRow : OpenClaim := { program := "ytdmbcgkfecmakaadoor", sum := "62f4d6b3adedfb1d6f9c8dfd67c2dd15c116bdc6fef5c20ded88ee1f91d03df2", func := "refmesh/refmeshlaw43.VerifierChecks", spec := "verifierChecks", unfollowed := true, recurses := true, named := ["internal/strconv.uint64pow10", "math/bits.deBruijn32tab", "math/bits.deBruijn64tab", "refmesh/bytecode.operators"], apart := false, laid := [("math/bits.deBruijn32tab", laid_math_bits_deBruijn32tab), ("math/bits.deBruijn64tab", laid_math_bits_deBruijn64tab), ("internal/strconv.uint64pow10", laid_internal_strconv_uint64pow10), ("refmesh/bytecode.operators", laid_refmesh_bytecode_operators)], narrowed := true }
def VerifierChecksUptoSaid : Prop := verifierChecksUptoRow.holds Tryd.pinned (OpenSpec.upto verifierChecksSpec)

/-- 'refmeshlaw43.VerifierSafe', WHERE WHAT IT READS IS OF BULK AT MOST 1048576: true; the input reads as it did. -/
def verifierSafeUptoRow : OpenClaim := { program := "ytdmbcgkfecmakaadoor", sum := "62f4d6b3adedfb1d6f9c8dfd67c2dd15c116bdc6fef5c20ded88ee1f91d03df2", func := "refmesh/refmeshlaw43.VerifierSafe", spec := "verifierSafe", unfollowed := true, recurses := true, named := ["internal/strconv.uint64pow10", "math/bits.deBruijn32tab", "math/bits.deBruijn64tab", "refmesh/bytecode.operators"], apart := false, laid := [("math/bits.deBruijn32tab", laid_math_bits_deBruijn32tab), ("math/bits.deBruijn64tab", laid_math_bits_deBruijn64tab), ("internal/strconv.uint64pow10", laid_internal_strconv_uint64pow10), ("refmesh/bytecode.operators", laid_refmesh_bytecode_operators)], narrowed := true }
def VerifierSafeUptoSaid : Prop := verifierSafeUptoRow.holds Tryd.pinned (OpenSpec.upto verifierSafeSpec)

/-- 'refmeshlaw43.VerifierGrows', WHERE WHAT IT READS IS OF BULK AT MOST 1048576: true; the input reads as it did. -/
def verifierGrowsUptoRow : OpenClaim := { program := "ytdmbcgkfecmakaadoor", sum := "62f4d6b3adedfb1d6f9c8dfd67c2dd15c116bdc6fef5c20ded88ee1f91d03df2", func := "refmesh/refmeshlaw43.VerifierGrows", spec := "verifierGrows", unfollowed := true, recurses := true, named := ["internal/strconv.uint64pow10", "math/bits.deBruijn32tab", "math/bits.deBruijn64tab", "refmesh/bytecode.operators"], apart := false, laid := [("math/bits.deBruijn32tab", laid_math_bits_deBruijn32tab), ("math/bits.deBruijn64tab", laid_math_bits_deBruijn64tab), ("internal/strconv.uint64pow10", laid_internal_strconv_uint64pow10), ("refmesh/bytecode.operators", laid_refmesh_bytecode_operators)], narrowed := true }
def VerifierGrowsUptoSaid : Prop := verifierGrowsUptoRow.holds Tryd.pinned (OpenSpec.upto verifierGrowsSpec)

/-- 'refmeshlaw43.VerifierLimits', WHERE WHAT IT READS IS OF BULK AT MOST 1048576: true; the input reads as it did. -/
def verifierLimitsUptoRow : OpenClaim := { program := "ytdmbcgkfecmakaadoor", sum := "62f4d6b3adedfb1d6f9c8dfd67c2dd15c116bdc6fef5c20ded88ee1f91d03df2", func := "refmesh/refmeshlaw43.VerifierLimits", spec := "verifierLimits", unfollowed := true, recurses := true, named := ["internal/strconv.uint64pow10", "math/bits.deBruijn32tab", "math/bits.deBruijn64tab", "refmesh/bytecode.operators"], apart := false, laid := [("math/bits.deBruijn32tab", laid_math_bits_deBruijn32tab), ("math/bits.deBruijn64tab", laid_math_bits_deBruijn64tab), ("internal/strconv.uint64pow10", laid_internal_strconv_uint64pow10), ("refmesh/bytecode.operators", laid_refmesh_bytecode_operators)], narrowed := true }
def VerifierLimitsUptoSaid : Prop := verifierLimitsUptoRow.holds Tryd.pinned (OpenSpec.upto verifierLimitsSpec)

/-- 'refmeshlaw41.BytecodeEqual', WHERE WHAT IT READS IS OF BULK AT MOST 1048576: true; the input reads as it did. -/
def bytecodeEqualUptoRow : OpenClaim := { program := "ytdmbcgkfecmakaadoor", sum := "62f4d6b3adedfb1d6f9c8dfd67c2dd15c116bdc6fef5c20ded88ee1f91d03df2", func := "refmesh/refmeshlaw41.BytecodeEqual", spec := "bytecodeEqual", inPlace := ["internal/abi.NoEscape", "internal/bytealg.MakeNoZero"], unfollowed := true, recurses := true, named := ["internal/strconv.uint64pow10", "math/bits.deBruijn32tab", "math/bits.deBruijn64tab", "refmesh/bytecode.operators"], apart := false, laid := [("math/bits.deBruijn32tab", laid_math_bits_deBruijn32tab), ("math/bits.deBruijn64tab", laid_math_bits_deBruijn64tab), ("internal/strconv.uint64pow10", laid_internal_strconv_uint64pow10), ("refmesh/bytecode.operators", laid_refmesh_bytecode_operators)], narrowed := true }
def BytecodeEqualUptoSaid : Prop := bytecodeEqualUptoRow.holds Tryd.pinned (OpenSpec.upto bytecodeEqualSpec)

end Rows
end Go.Proofs.YtdmbcgkfecmakaaDoor
