/-
  NARROWER THAN 'FOR EVERY INPUT', by the rows' own cells (each row's printed sentence says how): TraceTells: laid · TraceParses: laid · TraceBack: laid · TraceBounds: laid · TracePrefix: laid · TraceMore: laid · TraceLater: laid · TraceApart: laid · TraceRows: laid · TraceOne: laid · TraceMemory: laid.
  DERIVED. THE GIVEN ROWS OF THIS SEAT. 11 by the template 'for every input the law returns true; each argument reads behind the call as it read before'; 0 by the template 'total and deterministic' (their statements: YtckcepmkfegkiaaDoorTotals.lean).
  GIVEN WITH THE SEED: the statements are not yours to turn. If you find one false, say at which input.
  Laid BY PROGRAM, IN A SANDBOX (cutbox-rows.mjs): the forced cells as the released guide's own fill.sh prints them over the translation 8808564a4574e789… (all of the seat's roots in one cut). By AI agents, Wed Nov 11 2026. No macro, syntax, notation, axiom, sorry.
-/
import Derived.Test.YtckcepmkfegkiaaDoorChecked
import GoSem.Claim
import GoSem.ClaimJoined
import GoSem.ClaimMapViews
import Derived.JoinedTies
import Derived.KernelRfl
namespace Go.Proofs.YtckcepmkfegkiaaDoor
/- THE CELL 'sum', in the pinned program and in every row, IS THE sha256 OF THE DUMP (.gsa) THAT YtckcepmkfegkiaaDoorProg.lean LOADS. Nothing in Lean hashes anything: it is a label: what it is worth is what the hold of that sum in a sandbox is worth. -/
noncomputable def Tryd.pinned : Pinned := { name := "ytckcepmkfegkiaadoor", sum := "8808564a4574e78971aa4e7bb9f56acaa7b5202f5764b2606e09dd6af49af6c3", checked := Tryd.checked }
namespace Rows
def none {H : Type} : Left H := { results := [], args := [] }

/- WHAT THE LISTED PACKAGE-LEVEL VARIABLES READ AS WHEN THE CALL BEGINS. Each datum BY PROGRAM (the guide's laid-datum.mjs) off the statement by which the dump's own 'gosem.cut.vars' lays the variable. In a bare row this is a premise. The card (YtckcepmkfegkiaaDoorCards.lean) ties it to the program's text. -/
def laid_math_bits_deBruijn32tab {H : Type} : DataW H := .agg [.lit (.int .u8 0), .lit (.int .u8 1), .lit (.int .u8 28), .lit (.int .u8 2), .lit (.int .u8 29), .lit (.int .u8 14), .lit (.int .u8 24), .lit (.int .u8 3), .lit (.int .u8 30), .lit (.int .u8 22), .lit (.int .u8 20), .lit (.int .u8 15), .lit (.int .u8 25), .lit (.int .u8 17), .lit (.int .u8 4), .lit (.int .u8 8), .lit (.int .u8 31), .lit (.int .u8 27), .lit (.int .u8 13), .lit (.int .u8 23), .lit (.int .u8 21), .lit (.int .u8 19), .lit (.int .u8 16), .lit (.int .u8 7), .lit (.int .u8 26), .lit (.int .u8 12), .lit (.int .u8 18), .lit (.int .u8 6), .lit (.int .u8 11), .lit (.int .u8 5), .lit (.int .u8 10), .lit (.int .u8 9)]
def laid_math_bits_deBruijn64tab {H : Type} : DataW H := .agg [.lit (.int .u8 0), .lit (.int .u8 1), .lit (.int .u8 56), .lit (.int .u8 2), .lit (.int .u8 57), .lit (.int .u8 49), .lit (.int .u8 28), .lit (.int .u8 3), .lit (.int .u8 61), .lit (.int .u8 58), .lit (.int .u8 42), .lit (.int .u8 50), .lit (.int .u8 38), .lit (.int .u8 29), .lit (.int .u8 17), .lit (.int .u8 4), .lit (.int .u8 62), .lit (.int .u8 47), .lit (.int .u8 59), .lit (.int .u8 36), .lit (.int .u8 45), .lit (.int .u8 43), .lit (.int .u8 51), .lit (.int .u8 22), .lit (.int .u8 53), .lit (.int .u8 39), .lit (.int .u8 33), .lit (.int .u8 30), .lit (.int .u8 24), .lit (.int .u8 18), .lit (.int .u8 12), .lit (.int .u8 5), .lit (.int .u8 63), .lit (.int .u8 55), .lit (.int .u8 48), .lit (.int .u8 27), .lit (.int .u8 60), .lit (.int .u8 41), .lit (.int .u8 37), .lit (.int .u8 16), .lit (.int .u8 46), .lit (.int .u8 35), .lit (.int .u8 44), .lit (.int .u8 21), .lit (.int .u8 52), .lit (.int .u8 32), .lit (.int .u8 23), .lit (.int .u8 11), .lit (.int .u8 54), .lit (.int .u8 26), .lit (.int .u8 40), .lit (.int .u8 15), .lit (.int .u8 34), .lit (.int .u8 20), .lit (.int .u8 31), .lit (.int .u8 10), .lit (.int .u8 25), .lit (.int .u8 14), .lit (.int .u8 19), .lit (.int .u8 9), .lit (.int .u8 13), .lit (.int .u8 8), .lit (.int .u8 7), .lit (.int .u8 6)]
def laid_internal_strconv_uint64pow10 {H : Type} : DataW H := .agg [.lit (.int .u64 1), .lit (.int .u64 10), .lit (.int .u64 100), .lit (.int .u64 1000), .lit (.int .u64 10000), .lit (.int .u64 100000), .lit (.int .u64 1000000), .lit (.int .u64 10000000), .lit (.int .u64 100000000), .lit (.int .u64 1000000000), .lit (.int .u64 10000000000), .lit (.int .u64 100000000000), .lit (.int .u64 1000000000000), .lit (.int .u64 10000000000000), .lit (.int .u64 100000000000000), .lit (.int .u64 1000000000000000), .lit (.int .u64 10000000000000000), .lit (.int .u64 100000000000000000), .lit (.int .u64 1000000000000000000), .lit (.int .u64 10000000000000000000)]
def laid_millwright_trace_words {H : Type} : DataW H := .agg [.lit (.string [111, 116, 104, 101, 114]), .lit (.string [115, 116, 97, 114, 116]), .lit (.string [100, 105, 100]), .lit (.string [102, 97, 105, 108]), .lit (.string [110, 101, 101, 100]), .lit (.string [108, 97, 116, 101]), .lit (.string [115, 116, 111, 112])]
def laid_millwright_trace_ends {H : Type} : DataW H := .iface "func table" (.map [(.int .i64 2, .iface "func" (.lit (.string [40, 42, 109, 105, 108, 108, 119, 114, 105, 103, 104, 116, 47, 116, 114, 97, 99, 101, 46, 97, 117, 100, 105, 116, 41, 46, 100, 111, 101, 115]))), (.int .i64 3, .iface "func" (.lit (.string [40, 42, 109, 105, 108, 108, 119, 114, 105, 103, 104, 116, 47, 116, 114, 97, 99, 101, 46, 97, 117, 100, 105, 116, 41, 46, 102, 97, 105, 108, 115]))), (.int .i64 4, .iface "func" (.lit (.string [40, 42, 109, 105, 108, 108, 119, 114, 105, 103, 104, 116, 47, 116, 114, 97, 99, 101, 46, 97, 117, 100, 105, 116, 41, 46, 110, 101, 101, 100, 115]))), (.int .i64 5, .iface "func" (.lit (.string [40, 42, 109, 105, 108, 108, 119, 114, 105, 103, 104, 116, 47, 116, 114, 97, 99, 101, 46, 97, 117, 100, 105, 116, 41, 46, 108, 97, 116, 101]))), (.int .i64 6, .iface "func" (.lit (.string [40, 42, 109, 105, 108, 108, 119, 114, 105, 103, 104, 116, 47, 116, 114, 97, 99, 101, 46, 97, 117, 100, 105, 116, 41, 46, 115, 116, 111, 112, 115])))])

/-- 'millwrightlaw19.TraceTells': WHATEVER THE INPUT: true; the input reads as it did. -/
def traceTellsSpec : ChangeSpec := { name := "traceTells", fn := fun _ => fun
  | [d1, d2, d3] => { results := [.lit (.bool true)], args := [d1, d2, d3] }
  | _ => none }
def traceTellsRow : OpenClaim := { program := "ytckcepmkfegkiaadoor", sum := "8808564a4574e78971aa4e7bb9f56acaa7b5202f5764b2606e09dd6af49af6c3", func := "millwright/millwrightlaw19.TraceTells", spec := "traceTells", inPlace := ["internal/abi.NoEscape"], unfollowed := true, recurses := true, named := ["millwright/trace.ends", "millwright/trace.words", "internal/strconv.uint64pow10", "math/bits.deBruijn32tab", "math/bits.deBruijn64tab"], apart := false, laid := [("math/bits.deBruijn32tab", laid_math_bits_deBruijn32tab), ("math/bits.deBruijn64tab", laid_math_bits_deBruijn64tab), ("internal/strconv.uint64pow10", laid_internal_strconv_uint64pow10), ("millwright/trace.words", laid_millwright_trace_words), ("millwright/trace.ends", laid_millwright_trace_ends)] }
def TraceTellsSaid : Prop := traceTellsRow.holds Tryd.pinned (OpenSpec.ofChange traceTellsSpec)

/-- ITS FALSE NEIGHBOUR: 'it returns false'. Refute it at one input. -/
def traceTellsWrong : ChangeSpec := { name := "traceTells", fn := fun _ => fun
  | [d1, d2, d3] => { results := [.lit (.bool false)], args := [d1, d2, d3] }
  | _ => none }
def TraceTellsWrongFalsely : Prop := traceTellsRow.holds Tryd.pinned (OpenSpec.ofChange traceTellsWrong)

/-- 'millwrightlaw19.TraceParses': WHATEVER THE INPUT: true; the input reads as it did. -/
def traceParsesSpec : ChangeSpec := { name := "traceParses", fn := fun _ => fun
  | [d] => { results := [.lit (.bool true)], args := [d] }
  | _ => none }
def traceParsesRow : OpenClaim := { program := "ytckcepmkfegkiaadoor", sum := "8808564a4574e78971aa4e7bb9f56acaa7b5202f5764b2606e09dd6af49af6c3", func := "millwright/millwrightlaw19.TraceParses", spec := "traceParses", inPlace := ["internal/abi.NoEscape"], unfollowed := true, recurses := true, named := ["millwright/trace.ends", "millwright/trace.words", "internal/strconv.uint64pow10", "math/bits.deBruijn32tab", "math/bits.deBruijn64tab"], apart := false, laid := [("math/bits.deBruijn32tab", laid_math_bits_deBruijn32tab), ("math/bits.deBruijn64tab", laid_math_bits_deBruijn64tab), ("internal/strconv.uint64pow10", laid_internal_strconv_uint64pow10), ("millwright/trace.words", laid_millwright_trace_words), ("millwright/trace.ends", laid_millwright_trace_ends)] }
def TraceParsesSaid : Prop := traceParsesRow.holds Tryd.pinned (OpenSpec.ofChange traceParsesSpec)

/-- ITS FALSE NEIGHBOUR: 'it returns false'. Refute it at one input. -/
def traceParsesWrong : ChangeSpec := { name := "traceParses", fn := fun _ => fun
  | [d] => { results := [.lit (.bool false)], args := [d] }
  | _ => none }
def TraceParsesWrongFalsely : Prop := traceParsesRow.holds Tryd.pinned (OpenSpec.ofChange traceParsesWrong)

/-- 'millwrightlaw19.TraceBack': WHATEVER THE INPUT: true; the input reads as it did. -/
def traceBackSpec : ChangeSpec := { name := "traceBack", fn := fun _ => fun
  | [d] => { results := [.lit (.bool true)], args := [d] }
  | _ => none }
def traceBackRow : OpenClaim := { program := "ytckcepmkfegkiaadoor", sum := "8808564a4574e78971aa4e7bb9f56acaa7b5202f5764b2606e09dd6af49af6c3", func := "millwright/millwrightlaw19.TraceBack", spec := "traceBack", inPlace := ["internal/abi.NoEscape"], unfollowed := true, recurses := true, named := ["millwright/trace.ends", "millwright/trace.words", "internal/strconv.uint64pow10", "math/bits.deBruijn32tab", "math/bits.deBruijn64tab"], apart := false, laid := [("math/bits.deBruijn32tab", laid_math_bits_deBruijn32tab), ("math/bits.deBruijn64tab", laid_math_bits_deBruijn64tab), ("internal/strconv.uint64pow10", laid_internal_strconv_uint64pow10), ("millwright/trace.words", laid_millwright_trace_words), ("millwright/trace.ends", laid_millwright_trace_ends)] }
def TraceBackSaid : Prop := traceBackRow.holds Tryd.pinned (OpenSpec.ofChange traceBackSpec)

/-- ITS FALSE NEIGHBOUR: 'it returns false'. Refute it at one input. -/
def traceBackWrong : ChangeSpec := { name := "traceBack", fn := fun _ => fun
  | [d] => { results := [.lit (.bool false)], args := [d] }
  | _ => none }
def TraceBackWrongFalsely : Prop := traceBackRow.holds Tryd.pinned (OpenSpec.ofChange traceBackWrong)

/-- 'millwrightlaw19.TraceBounds': WHATEVER THE INPUT: true; the input reads as it did. -/
def traceBoundsSpec : ChangeSpec := { name := "traceBounds", fn := fun _ => fun
  | [d1, d2, d3] => { results := [.lit (.bool true)], args := [d1, d2, d3] }
  | _ => none }
def traceBoundsRow : OpenClaim := { program := "ytckcepmkfegkiaadoor", sum := "8808564a4574e78971aa4e7bb9f56acaa7b5202f5764b2606e09dd6af49af6c3", func := "millwright/millwrightlaw19.TraceBounds", spec := "traceBounds", inPlace := ["internal/abi.NoEscape"], unfollowed := true, recurses := true, named := ["millwright/trace.ends", "millwright/trace.words", "internal/strconv.uint64pow10", "math/bits.deBruijn32tab", "math/bits.deBruijn64tab"], apart := false, laid := [("math/bits.deBruijn32tab", laid_math_bits_deBruijn32tab), ("math/bits.deBruijn64tab", laid_math_bits_deBruijn64tab), ("internal/strconv.uint64pow10", laid_internal_strconv_uint64pow10), ("millwright/trace.words", laid_millwright_trace_words), ("millwright/trace.ends", laid_millwright_trace_ends)] }
def TraceBoundsSaid : Prop := traceBoundsRow.holds Tryd.pinned (OpenSpec.ofChange traceBoundsSpec)

/-- ITS FALSE NEIGHBOUR: 'it returns false'. Refute it at one input. -/
def traceBoundsWrong : ChangeSpec := { name := "traceBounds", fn := fun _ => fun
  | [d1, d2, d3] => { results := [.lit (.bool false)], args := [d1, d2, d3] }
  | _ => none }
def TraceBoundsWrongFalsely : Prop := traceBoundsRow.holds Tryd.pinned (OpenSpec.ofChange traceBoundsWrong)

/-- 'millwrightlaw19.TracePrefix': WHATEVER THE INPUT: true; the input reads as it did. -/
def tracePrefixSpec : ChangeSpec := { name := "tracePrefix", fn := fun _ => fun
  | [d1, d2, d3, d4] => { results := [.lit (.bool true)], args := [d1, d2, d3, d4] }
  | _ => none }
def tracePrefixRow : OpenClaim := { program := "ytckcepmkfegkiaadoor", sum := "8808564a4574e78971aa4e7bb9f56acaa7b5202f5764b2606e09dd6af49af6c3", func := "millwright/millwrightlaw19.TracePrefix", spec := "tracePrefix", inPlace := ["internal/abi.NoEscape"], unfollowed := true, recurses := true, named := ["millwright/trace.ends", "millwright/trace.words", "internal/strconv.uint64pow10", "math/bits.deBruijn32tab", "math/bits.deBruijn64tab"], apart := false, laid := [("math/bits.deBruijn32tab", laid_math_bits_deBruijn32tab), ("math/bits.deBruijn64tab", laid_math_bits_deBruijn64tab), ("internal/strconv.uint64pow10", laid_internal_strconv_uint64pow10), ("millwright/trace.words", laid_millwright_trace_words), ("millwright/trace.ends", laid_millwright_trace_ends)] }
def TracePrefixSaid : Prop := tracePrefixRow.holds Tryd.pinned (OpenSpec.ofChange tracePrefixSpec)

/-- ITS FALSE NEIGHBOUR: 'it returns false'. Refute it at one input. -/
def tracePrefixWrong : ChangeSpec := { name := "tracePrefix", fn := fun _ => fun
  | [d1, d2, d3, d4] => { results := [.lit (.bool false)], args := [d1, d2, d3, d4] }
  | _ => none }
def TracePrefixWrongFalsely : Prop := tracePrefixRow.holds Tryd.pinned (OpenSpec.ofChange tracePrefixWrong)

/-- 'millwrightlaw19.TraceMore': WHATEVER THE INPUT: true; the input reads as it did. -/
def traceMoreSpec : ChangeSpec := { name := "traceMore", fn := fun _ => fun
  | [d1, d2, d3, d4] => { results := [.lit (.bool true)], args := [d1, d2, d3, d4] }
  | _ => none }
def traceMoreRow : OpenClaim := { program := "ytckcepmkfegkiaadoor", sum := "8808564a4574e78971aa4e7bb9f56acaa7b5202f5764b2606e09dd6af49af6c3", func := "millwright/millwrightlaw19.TraceMore", spec := "traceMore", inPlace := ["internal/abi.NoEscape"], unfollowed := true, recurses := true, named := ["millwright/trace.ends", "millwright/trace.words", "internal/strconv.uint64pow10", "math/bits.deBruijn32tab", "math/bits.deBruijn64tab"], apart := false, laid := [("math/bits.deBruijn32tab", laid_math_bits_deBruijn32tab), ("math/bits.deBruijn64tab", laid_math_bits_deBruijn64tab), ("internal/strconv.uint64pow10", laid_internal_strconv_uint64pow10), ("millwright/trace.words", laid_millwright_trace_words), ("millwright/trace.ends", laid_millwright_trace_ends)] }
def TraceMoreSaid : Prop := traceMoreRow.holds Tryd.pinned (OpenSpec.ofChange traceMoreSpec)

/-- ITS FALSE NEIGHBOUR: 'it returns false'. Refute it at one input. -/
def traceMoreWrong : ChangeSpec := { name := "traceMore", fn := fun _ => fun
  | [d1, d2, d3, d4] => { results := [.lit (.bool false)], args := [d1, d2, d3, d4] }
  | _ => none }
def TraceMoreWrongFalsely : Prop := traceMoreRow.holds Tryd.pinned (OpenSpec.ofChange traceMoreWrong)

/-- 'millwrightlaw19.TraceLater': WHATEVER THE INPUT: true; the input reads as it did. -/
def traceLaterSpec : ChangeSpec := { name := "traceLater", fn := fun _ => fun
  | [d1, d2, d3, d4] => { results := [.lit (.bool true)], args := [d1, d2, d3, d4] }
  | _ => none }
def traceLaterRow : OpenClaim := { program := "ytckcepmkfegkiaadoor", sum := "8808564a4574e78971aa4e7bb9f56acaa7b5202f5764b2606e09dd6af49af6c3", func := "millwright/millwrightlaw19.TraceLater", spec := "traceLater", inPlace := ["internal/abi.NoEscape"], unfollowed := true, recurses := true, named := ["millwright/trace.ends", "millwright/trace.words", "internal/strconv.uint64pow10", "math/bits.deBruijn32tab", "math/bits.deBruijn64tab"], apart := false, laid := [("math/bits.deBruijn32tab", laid_math_bits_deBruijn32tab), ("math/bits.deBruijn64tab", laid_math_bits_deBruijn64tab), ("internal/strconv.uint64pow10", laid_internal_strconv_uint64pow10), ("millwright/trace.words", laid_millwright_trace_words), ("millwright/trace.ends", laid_millwright_trace_ends)] }
def TraceLaterSaid : Prop := traceLaterRow.holds Tryd.pinned (OpenSpec.ofChange traceLaterSpec)

/-- ITS FALSE NEIGHBOUR: 'it returns false'. Refute it at one input. -/
def traceLaterWrong : ChangeSpec := { name := "traceLater", fn := fun _ => fun
  | [d1, d2, d3, d4] => { results := [.lit (.bool false)], args := [d1, d2, d3, d4] }
  | _ => none }
def TraceLaterWrongFalsely : Prop := traceLaterRow.holds Tryd.pinned (OpenSpec.ofChange traceLaterWrong)

/-- 'millwrightlaw19.TraceApart': WHATEVER THE INPUT: true; the input reads as it did. -/
def traceApartSpec : ChangeSpec := { name := "traceApart", fn := fun _ => fun
  | [d1, d2, d3, d4] => { results := [.lit (.bool true)], args := [d1, d2, d3, d4] }
  | _ => none }
def traceApartRow : OpenClaim := { program := "ytckcepmkfegkiaadoor", sum := "8808564a4574e78971aa4e7bb9f56acaa7b5202f5764b2606e09dd6af49af6c3", func := "millwright/millwrightlaw19.TraceApart", spec := "traceApart", inPlace := ["internal/abi.NoEscape"], unfollowed := true, recurses := true, named := ["millwright/trace.ends", "millwright/trace.words", "internal/strconv.uint64pow10", "math/bits.deBruijn32tab", "math/bits.deBruijn64tab"], apart := false, laid := [("math/bits.deBruijn32tab", laid_math_bits_deBruijn32tab), ("math/bits.deBruijn64tab", laid_math_bits_deBruijn64tab), ("internal/strconv.uint64pow10", laid_internal_strconv_uint64pow10), ("millwright/trace.words", laid_millwright_trace_words), ("millwright/trace.ends", laid_millwright_trace_ends)] }
def TraceApartSaid : Prop := traceApartRow.holds Tryd.pinned (OpenSpec.ofChange traceApartSpec)

/-- ITS FALSE NEIGHBOUR: 'it returns false'. Refute it at one input. -/
def traceApartWrong : ChangeSpec := { name := "traceApart", fn := fun _ => fun
  | [d1, d2, d3, d4] => { results := [.lit (.bool false)], args := [d1, d2, d3, d4] }
  | _ => none }
def TraceApartWrongFalsely : Prop := traceApartRow.holds Tryd.pinned (OpenSpec.ofChange traceApartWrong)

/-- 'millwrightlaw19.TraceRows': WHATEVER THE INPUT: true; the input reads as it did. -/
def traceRowsSpec : ChangeSpec := { name := "traceRows", fn := fun _ => fun
  | [d1, d2] => { results := [.lit (.bool true)], args := [d1, d2] }
  | _ => none }
def traceRowsRow : OpenClaim := { program := "ytckcepmkfegkiaadoor", sum := "8808564a4574e78971aa4e7bb9f56acaa7b5202f5764b2606e09dd6af49af6c3", func := "millwright/millwrightlaw19.TraceRows", spec := "traceRows", inPlace := ["internal/abi.NoEscape"], unfollowed := true, recurses := true, named := ["millwright/trace.ends", "millwright/trace.words", "internal/strconv.uint64pow10", "math/bits.deBruijn32tab", "math/bits.deBruijn64tab"], apart := false, laid := [("math/bits.deBruijn32tab", laid_math_bits_deBruijn32tab), ("math/bits.deBruijn64tab", laid_math_bits_deBruijn64tab), ("internal/strconv.uint64pow10", laid_internal_strconv_uint64pow10), ("millwright/trace.words", laid_millwright_trace_words), ("millwright/trace.ends", laid_millwright_trace_ends)] }
def TraceRowsSaid : Prop := traceRowsRow.holds Tryd.pinned (OpenSpec.ofChange traceRowsSpec)

/-- ITS FALSE NEIGHBOUR: 'it returns false'. Refute it at one input. -/
def traceRowsWrong : ChangeSpec := { name := "traceRows", fn := fun _ => fun
  | [d1, d2] => { results := [.lit (.bool false)], args := [d1, d2] }
  | _ => none }
def TraceRowsWrongFalsely : Prop := traceRowsRow.holds Tryd.pinned (OpenSpec.ofChange traceRowsWrong)

/-- 'millwrightlaw19.TraceOne': WHATEVER THE INPUT: true; the input reads as it did. -/
def traceOneSpec : ChangeSpec := { name := "traceOne", fn := fun _ => fun
  | [d1, d2, d3] => { results := [.lit (.bool true)], args := [d1, d2, d3] }
  | _ => none }
def traceOneRow : OpenClaim := { program := "ytckcepmkfegkiaadoor", sum := "8808564a4574e78971aa4e7bb9f56acaa7b5202f5764b2606e09dd6af49af6c3", func := "millwright/millwrightlaw19.TraceOne", spec := "traceOne", inPlace := ["internal/abi.NoEscape"], unfollowed := true, recurses := true, named := ["millwright/trace.ends", "millwright/trace.words", "internal/strconv.uint64pow10", "math/bits.deBruijn32tab", "math/bits.deBruijn64tab"], apart := false, laid := [("math/bits.deBruijn32tab", laid_math_bits_deBruijn32tab), ("math/bits.deBruijn64tab", laid_math_bits_deBruijn64tab), ("internal/strconv.uint64pow10", laid_internal_strconv_uint64pow10), ("millwright/trace.words", laid_millwright_trace_words), ("millwright/trace.ends", laid_millwright_trace_ends)] }
def TraceOneSaid : Prop := traceOneRow.holds Tryd.pinned (OpenSpec.ofChange traceOneSpec)

/-- ITS FALSE NEIGHBOUR: 'it returns false'. Refute it at one input. -/
def traceOneWrong : ChangeSpec := { name := "traceOne", fn := fun _ => fun
  | [d1, d2, d3] => { results := [.lit (.bool false)], args := [d1, d2, d3] }
  | _ => none }
def TraceOneWrongFalsely : Prop := traceOneRow.holds Tryd.pinned (OpenSpec.ofChange traceOneWrong)

/-- 'millwrightlaw19.TraceMemory': WHATEVER THE INPUT: true; the input reads as it did. -/
def traceMemorySpec : ChangeSpec := { name := "traceMemory", fn := fun _ => fun
  | [d1, d2] => { results := [.lit (.bool true)], args := [d1, d2] }
  | _ => none }
def traceMemoryRow : OpenClaim := { program := "ytckcepmkfegkiaadoor", sum := "8808564a4574e78971aa4e7bb9f56acaa7b5202f5764b2606e09dd6af49af6c3", func := "millwright/millwrightlaw19.TraceMemory", spec := "traceMemory", inPlace := ["internal/abi.NoEscape"], unfollowed := true, recurses := true, named := ["millwright/trace.ends", "millwright/trace.words", "internal/strconv.uint64pow10", "math/bits.deBruijn32tab", "math/bits.deBruijn64tab"], apart := false, laid := [("math/bits.deBruijn32tab", laid_math_bits_deBruijn32tab), ("math/bits.deBruijn64tab", laid_math_bits_deBruijn64tab), ("internal/strconv.uint64pow10", laid_internal_strconv_uint64pow10), ("millwright/trace.words", laid_millwright_trace_words), ("millwright/trace.ends", laid_millwright_trace_ends)] }
def TraceMemorySaid : Prop := traceMemoryRow.holds Tryd.pinned (OpenSpec.ofChange traceMemorySpec)

/-- ITS FALSE NEIGHBOUR: 'it returns false'. Refute it at one input. -/
def traceMemoryWrong : ChangeSpec := { name := "traceMemory", fn := fun _ => fun
  | [d1, d2] => { results := [.lit (.bool false)], args := [d1, d2] }
  | _ => none }
def TraceMemoryWrongFalsely : Prop := traceMemoryRow.holds Tryd.pinned (OpenSpec.ofChange traceMemoryWrong)

/- THE SECOND FORM. 'bulk': how many values and letters a reading holds, each counted each time it is reached (what is shared counts as often as it is met; a slice's spare places count too). A statement '..UptoSaid' is the law's where the arguments, and the package variables that the reading takes, are together of bulk at most 1048576: NARROWER than '..Said'. Prove '..Said' where nothing that the law and all that it calls make is longer than what came in: it says more and counts as full. Else prove '..UptoSaid'. A law counts once. -/
mutual
def uptoBulk {H : Type} : DataW H → Nat
  | .lit (.string bytes) => bytes.length + 1
  | .lit _ => 1
  | .nil => 1
  | .ptr d => uptoBulk d + 1
  | .slice elems spare => uptoBulkAll elems + uptoBulkAll spare + 1
  | .agg parts => uptoBulkAll parts + 1
  | .iface _ d => uptoBulk d + 1
  | .map entries => uptoBulkEntries entries + 1
  | .held _ => 1
def uptoBulkAll {H : Type} : List (DataW H) → Nat
  | [] => 0
  | d :: r => uptoBulk d + uptoBulkAll r
def uptoBulkEntries {H : Type} : List (Lit × DataW H) → Nat
  | [] => 0
  | x :: r => uptoBulkEntry x + uptoBulkEntries r
def uptoBulkEntry {H : Type} : Lit × DataW H → Nat
  | (.string bytes, d) => bytes.length + uptoBulk d + 1
  | (_, d) => uptoBulk d + 1
 end
def uptoSmall : (H : Type) → List (DataW H) → Bool := fun _ ds => decide (uptoBulkAll ds ≤ 1048576)
def OpenSpec.upto (s : _root_.Go.ChangeSpec) : _root_.Go.OpenSpec := { _root_.Go.OpenSpec.ofChange s with cond := some uptoSmall }

/-- 'millwrightlaw19.TraceTells', WHERE WHAT IT READS IS OF BULK AT MOST 1048576: true; the input reads as it did. -/
def traceTellsUptoRow : OpenClaim := { program := "ytckcepmkfegkiaadoor", sum := "8808564a4574e78971aa4e7bb9f56acaa7b5202f5764b2606e09dd6af49af6c3", func := "millwright/millwrightlaw19.TraceTells", spec := "traceTells", inPlace := ["internal/abi.NoEscape"], unfollowed := true, recurses := true, named := ["millwright/trace.ends", "millwright/trace.words", "internal/strconv.uint64pow10", "math/bits.deBruijn32tab", "math/bits.deBruijn64tab"], apart := false, laid := [("math/bits.deBruijn32tab", laid_math_bits_deBruijn32tab), ("math/bits.deBruijn64tab", laid_math_bits_deBruijn64tab), ("internal/strconv.uint64pow10", laid_internal_strconv_uint64pow10), ("millwright/trace.words", laid_millwright_trace_words), ("millwright/trace.ends", laid_millwright_trace_ends)], narrowed := true }
def TraceTellsUptoSaid : Prop := traceTellsUptoRow.holds Tryd.pinned (OpenSpec.upto traceTellsSpec)

/-- 'millwrightlaw19.TraceParses', WHERE WHAT IT READS IS OF BULK AT MOST 1048576: true; the input reads as it did. -/
def traceParsesUptoRow : OpenClaim := { program := "ytckcepmkfegkiaadoor", sum := "8808564a4574e78971aa4e7bb9f56acaa7b5202f5764b2606e09dd6af49af6c3", func := "millwright/millwrightlaw19.TraceParses", spec := "traceParses", inPlace := ["internal/abi.NoEscape"], unfollowed := true, recurses := true, named := ["millwright/trace.ends", "millwright/trace.words", "internal/strconv.uint64pow10", "math/bits.deBruijn32tab", "math/bits.deBruijn64tab"], apart := false, laid := [("math/bits.deBruijn32tab", laid_math_bits_deBruijn32tab), ("math/bits.deBruijn64tab", laid_math_bits_deBruijn64tab), ("internal/strconv.uint64pow10", laid_internal_strconv_uint64pow10), ("millwright/trace.words", laid_millwright_trace_words), ("millwright/trace.ends", laid_millwright_trace_ends)], narrowed := true }
def TraceParsesUptoSaid : Prop := traceParsesUptoRow.holds Tryd.pinned (OpenSpec.upto traceParsesSpec)

/-- 'millwrightlaw19.TraceBack', WHERE WHAT IT READS IS OF BULK AT MOST 1048576: true; the input reads as it did. -/
def traceBackUptoRow : OpenClaim := { program := "ytckcepmkfegkiaadoor", sum := "8808564a4574e78971aa4e7bb9f56acaa7b5202f5764b2606e09dd6af49af6c3", func := "millwright/millwrightlaw19.TraceBack", spec := "traceBack", inPlace := ["internal/abi.NoEscape"], unfollowed := true, recurses := true, named := ["millwright/trace.ends", "millwright/trace.words", "internal/strconv.uint64pow10", "math/bits.deBruijn32tab", "math/bits.deBruijn64tab"], apart := false, laid := [("math/bits.deBruijn32tab", laid_math_bits_deBruijn32tab), ("math/bits.deBruijn64tab", laid_math_bits_deBruijn64tab), ("internal/strconv.uint64pow10", laid_internal_strconv_uint64pow10), ("millwright/trace.words", laid_millwright_trace_words), ("millwright/trace.ends", laid_millwright_trace_ends)], narrowed := true }
def TraceBackUptoSaid : Prop := traceBackUptoRow.holds Tryd.pinned (OpenSpec.upto traceBackSpec)

/-- 'millwrightlaw19.TraceBounds', WHERE WHAT IT READS IS OF BULK AT MOST 1048576: true; the input reads as it did. -/
def traceBoundsUptoRow : OpenClaim := { program := "ytckcepmkfegkiaadoor", sum := "8808564a4574e78971aa4e7bb9f56acaa7b5202f5764b2606e09dd6af49af6c3", func := "millwright/millwrightlaw19.TraceBounds", spec := "traceBounds", inPlace := ["internal/abi.NoEscape"], unfollowed := true, recurses := true, named := ["millwright/trace.ends", "millwright/trace.words", "internal/strconv.uint64pow10", "math/bits.deBruijn32tab", "math/bits.deBruijn64tab"], apart := false, laid := [("math/bits.deBruijn32tab", laid_math_bits_deBruijn32tab), ("math/bits.deBruijn64tab", laid_math_bits_deBruijn64tab), ("internal/strconv.uint64pow10", laid_internal_strconv_uint64pow10), ("millwright/trace.words", laid_millwright_trace_words), ("millwright/trace.ends", laid_millwright_trace_ends)], narrowed := true }
def TraceBoundsUptoSaid : Prop := traceBoundsUptoRow.holds Tryd.pinned (OpenSpec.upto traceBoundsSpec)

/-- 'millwrightlaw19.TracePrefix', WHERE WHAT IT READS IS OF BULK AT MOST 1048576: true; the input reads as it did. -/
def tracePrefixUptoRow : OpenClaim := { program := "ytckcepmkfegkiaadoor", sum := "8808564a4574e78971aa4e7bb9f56acaa7b5202f5764b2606e09dd6af49af6c3", func := "millwright/millwrightlaw19.TracePrefix", spec := "tracePrefix", inPlace := ["internal/abi.NoEscape"], unfollowed := true, recurses := true, named := ["millwright/trace.ends", "millwright/trace.words", "internal/strconv.uint64pow10", "math/bits.deBruijn32tab", "math/bits.deBruijn64tab"], apart := false, laid := [("math/bits.deBruijn32tab", laid_math_bits_deBruijn32tab), ("math/bits.deBruijn64tab", laid_math_bits_deBruijn64tab), ("internal/strconv.uint64pow10", laid_internal_strconv_uint64pow10), ("millwright/trace.words", laid_millwright_trace_words), ("millwright/trace.ends", laid_millwright_trace_ends)], narrowed := true }
def TracePrefixUptoSaid : Prop := tracePrefixUptoRow.holds Tryd.pinned (OpenSpec.upto tracePrefixSpec)

/-- 'millwrightlaw19.TraceMore', WHERE WHAT IT READS IS OF BULK AT MOST 1048576: true; the input reads as it did. -/
def traceMoreUptoRow : OpenClaim := { program := "ytckcepmkfegkiaadoor", sum := "8808564a4574e78971aa4e7bb9f56acaa7b5202f5764b2606e09dd6af49af6c3", func := "millwright/millwrightlaw19.TraceMore", spec := "traceMore", inPlace := ["internal/abi.NoEscape"], unfollowed := true, recurses := true, named := ["millwright/trace.ends", "millwright/trace.words", "internal/strconv.uint64pow10", "math/bits.deBruijn32tab", "math/bits.deBruijn64tab"], apart := false, laid := [("math/bits.deBruijn32tab", laid_math_bits_deBruijn32tab), ("math/bits.deBruijn64tab", laid_math_bits_deBruijn64tab), ("internal/strconv.uint64pow10", laid_internal_strconv_uint64pow10), ("millwright/trace.words", laid_millwright_trace_words), ("millwright/trace.ends", laid_millwright_trace_ends)], narrowed := true }
def TraceMoreUptoSaid : Prop := traceMoreUptoRow.holds Tryd.pinned (OpenSpec.upto traceMoreSpec)

/-- 'millwrightlaw19.TraceLater', WHERE WHAT IT READS IS OF BULK AT MOST 1048576: true; the input reads as it did. -/
def traceLaterUptoRow : OpenClaim := { program := "ytckcepmkfegkiaadoor", sum := "8808564a4574e78971aa4e7bb9f56acaa7b5202f5764b2606e09dd6af49af6c3", func := "millwright/millwrightlaw19.TraceLater", spec := "traceLater", inPlace := ["internal/abi.NoEscape"], unfollowed := true, recurses := true, named := ["millwright/trace.ends", "millwright/trace.words", "internal/strconv.uint64pow10", "math/bits.deBruijn32tab", "math/bits.deBruijn64tab"], apart := false, laid := [("math/bits.deBruijn32tab", laid_math_bits_deBruijn32tab), ("math/bits.deBruijn64tab", laid_math_bits_deBruijn64tab), ("internal/strconv.uint64pow10", laid_internal_strconv_uint64pow10), ("millwright/trace.words", laid_millwright_trace_words), ("millwright/trace.ends", laid_millwright_trace_ends)], narrowed := true }
def TraceLaterUptoSaid : Prop := traceLaterUptoRow.holds Tryd.pinned (OpenSpec.upto traceLaterSpec)

/-- 'millwrightlaw19.TraceApart', WHERE WHAT IT READS IS OF BULK AT MOST 1048576: true; the input reads as it did. -/
def traceApartUptoRow : OpenClaim := { program := "ytckcepmkfegkiaadoor", sum := "8808564a4574e78971aa4e7bb9f56acaa7b5202f5764b2606e09dd6af49af6c3", func := "millwright/millwrightlaw19.TraceApart", spec := "traceApart", inPlace := ["internal/abi.NoEscape"], unfollowed := true, recurses := true, named := ["millwright/trace.ends", "millwright/trace.words", "internal/strconv.uint64pow10", "math/bits.deBruijn32tab", "math/bits.deBruijn64tab"], apart := false, laid := [("math/bits.deBruijn32tab", laid_math_bits_deBruijn32tab), ("math/bits.deBruijn64tab", laid_math_bits_deBruijn64tab), ("internal/strconv.uint64pow10", laid_internal_strconv_uint64pow10), ("millwright/trace.words", laid_millwright_trace_words), ("millwright/trace.ends", laid_millwright_trace_ends)], narrowed := true }
def TraceApartUptoSaid : Prop := traceApartUptoRow.holds Tryd.pinned (OpenSpec.upto traceApartSpec)

/-- 'millwrightlaw19.TraceRows', WHERE WHAT IT READS IS OF BULK AT MOST 1048576: true; the input reads as it did. -/
def traceRowsUptoRow : OpenClaim := { program := "ytckcepmkfegkiaadoor", sum := "8808564a4574e78971aa4e7bb9f56acaa7b5202f5764b2606e09dd6af49af6c3", func := "millwright/millwrightlaw19.TraceRows", spec := "traceRows", inPlace := ["internal/abi.NoEscape"], unfollowed := true, recurses := true, named := ["millwright/trace.ends", "millwright/trace.words", "internal/strconv.uint64pow10", "math/bits.deBruijn32tab", "math/bits.deBruijn64tab"], apart := false, laid := [("math/bits.deBruijn32tab", laid_math_bits_deBruijn32tab), ("math/bits.deBruijn64tab", laid_math_bits_deBruijn64tab), ("internal/strconv.uint64pow10", laid_internal_strconv_uint64pow10), ("millwright/trace.words", laid_millwright_trace_words), ("millwright/trace.ends", laid_millwright_trace_ends)], narrowed := true }
def TraceRowsUptoSaid : Prop := traceRowsUptoRow.holds Tryd.pinned (OpenSpec.upto traceRowsSpec)

/-- 'millwrightlaw19.TraceOne', WHERE WHAT IT READS IS OF BULK AT MOST 1048576: true; the input reads as it did. -/
def traceOneUptoRow : OpenClaim := { program := "ytckcepmkfegkiaadoor", sum := "8808564a4574e78971aa4e7bb9f56acaa7b5202f5764b2606e09dd6af49af6c3", func := "millwright/millwrightlaw19.TraceOne", spec := "traceOne", inPlace := ["internal/abi.NoEscape"], unfollowed := true, recurses := true, named := ["millwright/trace.ends", "millwright/trace.words", "internal/strconv.uint64pow10", "math/bits.deBruijn32tab", "math/bits.deBruijn64tab"], apart := false, laid := [("math/bits.deBruijn32tab", laid_math_bits_deBruijn32tab), ("math/bits.deBruijn64tab", laid_math_bits_deBruijn64tab), ("internal/strconv.uint64pow10", laid_internal_strconv_uint64pow10), ("millwright/trace.words", laid_millwright_trace_words), ("millwright/trace.ends", laid_millwright_trace_ends)], narrowed := true }
def TraceOneUptoSaid : Prop := traceOneUptoRow.holds Tryd.pinned (OpenSpec.upto traceOneSpec)

/-- 'millwrightlaw19.TraceMemory', WHERE WHAT IT READS IS OF BULK AT MOST 1048576: true; the input reads as it did. -/
def traceMemoryUptoRow : OpenClaim := { program := "ytckcepmkfegkiaadoor", sum := "8808564a4574e78971aa4e7bb9f56acaa7b5202f5764b2606e09dd6af49af6c3", func := "millwright/millwrightlaw19.TraceMemory", spec := "traceMemory", inPlace := ["internal/abi.NoEscape"], unfollowed := true, recurses := true, named := ["millwright/trace.ends", "millwright/trace.words", "internal/strconv.uint64pow10", "math/bits.deBruijn32tab", "math/bits.deBruijn64tab"], apart := false, laid := [("math/bits.deBruijn32tab", laid_math_bits_deBruijn32tab), ("math/bits.deBruijn64tab", laid_math_bits_deBruijn64tab), ("internal/strconv.uint64pow10", laid_internal_strconv_uint64pow10), ("millwright/trace.words", laid_millwright_trace_words), ("millwright/trace.ends", laid_millwright_trace_ends)], narrowed := true }
def TraceMemoryUptoSaid : Prop := traceMemoryUptoRow.holds Tryd.pinned (OpenSpec.upto traceMemorySpec)

end Rows
end Go.Proofs.YtckcepmkfegkiaaDoor
