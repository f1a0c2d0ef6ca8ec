/-
  NARROWER THAN 'FOR EVERY INPUT', by the rows' own cells (each row's printed sentence says how): ParseTells: laid · ParseTexts: laid · ParseBack: laid · ParseOrder: laid · ParseLines: laid · ParseNumbers: laid.
  DERIVED. THE GIVEN ROWS OF THIS SEAT. 6 by the template 'for every input the law returns true; each argument reads behind the call as it read before'; 0 by the template 'total and deterministic' (their statements: YtegbfimfpkendaaDoorTotals.lean).
  GIVEN WITH THE SEED: the statements are not yours to turn. If you find one false, say at which input.
  Laid BY PROGRAM, IN A SANDBOX (cutbox-rows.mjs): the forced cells as the released guide's own fill.sh prints them over the translation 1ef6353cfb25ebaa… (all of the seat's roots in one cut). By AI agents, Wed Nov 11 2026. No macro, syntax, notation, axiom, sorry.
-/
import Derived.Test.YtegbfimfpkendaaDoorChecked
import GoSem.Claim
import GoSem.ClaimJoined
import GoSem.ClaimMapViews
import Derived.JoinedTies
import Derived.KernelRfl
namespace Go.Proofs.YtegbfimfpkendaaDoor
/- THE CELL 'sum', in the pinned program and in every row, IS THE sha256 OF THE DUMP (.gsa) THAT YtegbfimfpkendaaDoorProg.lean LOADS. Nothing in Lean hashes anything: it is a label: what it is worth is what the hold of that sum in a sandbox is worth. -/
noncomputable def Tryd.pinned : Pinned := { name := "ytegbfimfpkendaadoor", sum := "1ef6353cfb25ebaa0e69b8f170d8e6d3873b9d587fb9fe0095342b005e09eb28", checked := Tryd.checked }
namespace Rows
def none {H : Type} : Left H := { results := [], args := [] }

/- WHAT THE LISTED PACKAGE-LEVEL VARIABLES READ AS WHEN THE CALL BEGINS. Each datum BY PROGRAM (the guide's laid-datum.mjs) off the statement by which the dump's own 'gosem.cut.vars' lays the variable. In a bare row this is a premise. The card (YtegbfimfpkendaaDoorCards.lean) ties it to the program's text. -/
def laid_math_bits_deBruijn32tab {H : Type} : DataW H := .agg [.lit (.int .u8 0), .lit (.int .u8 1), .lit (.int .u8 28), .lit (.int .u8 2), .lit (.int .u8 29), .lit (.int .u8 14), .lit (.int .u8 24), .lit (.int .u8 3), .lit (.int .u8 30), .lit (.int .u8 22), .lit (.int .u8 20), .lit (.int .u8 15), .lit (.int .u8 25), .lit (.int .u8 17), .lit (.int .u8 4), .lit (.int .u8 8), .lit (.int .u8 31), .lit (.int .u8 27), .lit (.int .u8 13), .lit (.int .u8 23), .lit (.int .u8 21), .lit (.int .u8 19), .lit (.int .u8 16), .lit (.int .u8 7), .lit (.int .u8 26), .lit (.int .u8 12), .lit (.int .u8 18), .lit (.int .u8 6), .lit (.int .u8 11), .lit (.int .u8 5), .lit (.int .u8 10), .lit (.int .u8 9)]
def laid_math_bits_deBruijn64tab {H : Type} : DataW H := .agg [.lit (.int .u8 0), .lit (.int .u8 1), .lit (.int .u8 56), .lit (.int .u8 2), .lit (.int .u8 57), .lit (.int .u8 49), .lit (.int .u8 28), .lit (.int .u8 3), .lit (.int .u8 61), .lit (.int .u8 58), .lit (.int .u8 42), .lit (.int .u8 50), .lit (.int .u8 38), .lit (.int .u8 29), .lit (.int .u8 17), .lit (.int .u8 4), .lit (.int .u8 62), .lit (.int .u8 47), .lit (.int .u8 59), .lit (.int .u8 36), .lit (.int .u8 45), .lit (.int .u8 43), .lit (.int .u8 51), .lit (.int .u8 22), .lit (.int .u8 53), .lit (.int .u8 39), .lit (.int .u8 33), .lit (.int .u8 30), .lit (.int .u8 24), .lit (.int .u8 18), .lit (.int .u8 12), .lit (.int .u8 5), .lit (.int .u8 63), .lit (.int .u8 55), .lit (.int .u8 48), .lit (.int .u8 27), .lit (.int .u8 60), .lit (.int .u8 41), .lit (.int .u8 37), .lit (.int .u8 16), .lit (.int .u8 46), .lit (.int .u8 35), .lit (.int .u8 44), .lit (.int .u8 21), .lit (.int .u8 52), .lit (.int .u8 32), .lit (.int .u8 23), .lit (.int .u8 11), .lit (.int .u8 54), .lit (.int .u8 26), .lit (.int .u8 40), .lit (.int .u8 15), .lit (.int .u8 34), .lit (.int .u8 20), .lit (.int .u8 31), .lit (.int .u8 10), .lit (.int .u8 25), .lit (.int .u8 14), .lit (.int .u8 19), .lit (.int .u8 9), .lit (.int .u8 13), .lit (.int .u8 8), .lit (.int .u8 7), .lit (.int .u8 6)]
def laid_internal_strconv_uint64pow10 {H : Type} : DataW H := .agg [.lit (.int .u64 1), .lit (.int .u64 10), .lit (.int .u64 100), .lit (.int .u64 1000), .lit (.int .u64 10000), .lit (.int .u64 100000), .lit (.int .u64 1000000), .lit (.int .u64 10000000), .lit (.int .u64 100000000), .lit (.int .u64 1000000000), .lit (.int .u64 10000000000), .lit (.int .u64 100000000000), .lit (.int .u64 1000000000000), .lit (.int .u64 10000000000000), .lit (.int .u64 100000000000000), .lit (.int .u64 1000000000000000), .lit (.int .u64 10000000000000000), .lit (.int .u64 100000000000000000), .lit (.int .u64 1000000000000000000), .lit (.int .u64 10000000000000000000)]
def laid_millwright_parse_names {H : Type} : DataW H := .agg [.lit (.string [98, 117, 100, 103, 101, 116]), .lit (.string [115, 108, 111, 116, 115]), .lit (.string [97, 99, 116, 105, 118, 101]), .lit (.string [113, 117, 101, 117, 101]), .lit (.string [116, 114, 105, 101, 115]), .lit (.string [112, 114, 101, 101, 109, 112, 116, 115]), .lit (.string [116, 105, 109, 101, 111, 117, 116]), .lit (.string [98, 97, 99, 107, 111, 102, 102]), .lit (.string [109, 111, 115, 116]), .lit (.string [113, 117, 97, 110, 116, 117, 109])]
def laid_millwright_parse_forms {H : Type} : DataW H := .agg [.agg [.lit (.string [115, 117, 98, 109, 105, 116]), .lit (.int .i64 1), .lit (.int .i64 3)], .agg [.lit (.string [99, 97, 110, 99, 101, 108]), .lit (.int .i64 2), .lit (.int .i64 1)], .agg [.lit (.string [116, 105, 99, 107]), .lit (.int .i64 3), .lit (.int .i64 0)], .agg [.lit (.string [100, 105, 115, 112, 97, 116, 99, 104]), .lit (.int .i64 4), .lit (.int .i64 0)], .agg [.lit (.string [97, 110, 115, 119, 101, 114]), .lit (.int .i64 5), .lit (.int .i64 2)], .agg [.lit (.string [113, 117, 101, 114, 121]), .lit (.int .i64 6), .lit (.int .i64 1)]]
def laid_millwright_parse_answers {H : Type} : DataW H := .agg [.agg [.lit (.string [100, 105, 100]), .lit (.int .i64 1), .lit (.int .i64 0)], .agg [.lit (.string [102, 97, 105, 108]), .lit (.int .i64 2), .lit (.int .i64 0)], .agg [.lit (.string [110, 101, 101, 100]), .lit (.int .i64 3), .lit (.int .i64 1)]]

/-- 'millwrightlaw03.ParseTells': WHATEVER THE INPUT: true; the input reads as it did. -/
def parseTellsSpec : ChangeSpec := { name := "parseTells", fn := fun _ => fun
  | [d] => { results := [.lit (.bool true)], args := [d] }
  | _ => none }
def parseTellsRow : OpenClaim := { program := "ytegbfimfpkendaadoor", sum := "1ef6353cfb25ebaa0e69b8f170d8e6d3873b9d587fb9fe0095342b005e09eb28", func := "millwright/millwrightlaw03.ParseTells", spec := "parseTells", inPlace := ["internal/abi.NoEscape"], unfollowed := true, recurses := true, named := ["millwright/parse.forms", "millwright/parse.names", "millwright/parse.answers", "internal/strconv.uint64pow10", "math/bits.deBruijn32tab", "math/bits.deBruijn64tab"], apart := false, laid := [("math/bits.deBruijn32tab", laid_math_bits_deBruijn32tab), ("math/bits.deBruijn64tab", laid_math_bits_deBruijn64tab), ("internal/strconv.uint64pow10", laid_internal_strconv_uint64pow10), ("millwright/parse.names", laid_millwright_parse_names), ("millwright/parse.forms", laid_millwright_parse_forms), ("millwright/parse.answers", laid_millwright_parse_answers)] }
def ParseTellsSaid : Prop := parseTellsRow.holds Tryd.pinned (OpenSpec.ofChange parseTellsSpec)

/-- ITS FALSE NEIGHBOUR: 'it returns false'. Refute it at one input. -/
def parseTellsWrong : ChangeSpec := { name := "parseTells", fn := fun _ => fun
  | [d] => { results := [.lit (.bool false)], args := [d] }
  | _ => none }
def ParseTellsWrongFalsely : Prop := parseTellsRow.holds Tryd.pinned (OpenSpec.ofChange parseTellsWrong)

/-- 'millwrightlaw03.ParseTexts': WHATEVER THE INPUT: true; the input reads as it did. -/
def parseTextsSpec : ChangeSpec := { name := "parseTexts", fn := fun _ => fun
  | [d] => { results := [.lit (.bool true)], args := [d] }
  | _ => none }
def parseTextsRow : OpenClaim := { program := "ytegbfimfpkendaadoor", sum := "1ef6353cfb25ebaa0e69b8f170d8e6d3873b9d587fb9fe0095342b005e09eb28", func := "millwright/millwrightlaw03.ParseTexts", spec := "parseTexts", inPlace := ["internal/abi.NoEscape"], unfollowed := true, recurses := true, named := ["millwright/parse.forms", "millwright/parse.names", "millwright/parse.answers", "internal/strconv.uint64pow10", "math/bits.deBruijn32tab", "math/bits.deBruijn64tab"], apart := false, laid := [("math/bits.deBruijn32tab", laid_math_bits_deBruijn32tab), ("math/bits.deBruijn64tab", laid_math_bits_deBruijn64tab), ("internal/strconv.uint64pow10", laid_internal_strconv_uint64pow10), ("millwright/parse.names", laid_millwright_parse_names), ("millwright/parse.forms", laid_millwright_parse_forms), ("millwright/parse.answers", laid_millwright_parse_answers)] }
def ParseTextsSaid : Prop := parseTextsRow.holds Tryd.pinned (OpenSpec.ofChange parseTextsSpec)

/-- ITS FALSE NEIGHBOUR: 'it returns false'. Refute it at one input. -/
def parseTextsWrong : ChangeSpec := { name := "parseTexts", fn := fun _ => fun
  | [d] => { results := [.lit (.bool false)], args := [d] }
  | _ => none }
def ParseTextsWrongFalsely : Prop := parseTextsRow.holds Tryd.pinned (OpenSpec.ofChange parseTextsWrong)

/-- 'millwrightlaw03.ParseBack': WHATEVER THE INPUT: true; the input reads as it did. -/
def parseBackSpec : ChangeSpec := { name := "parseBack", fn := fun _ => fun
  | [d1, d2] => { results := [.lit (.bool true)], args := [d1, d2] }
  | _ => none }
def parseBackRow : OpenClaim := { program := "ytegbfimfpkendaadoor", sum := "1ef6353cfb25ebaa0e69b8f170d8e6d3873b9d587fb9fe0095342b005e09eb28", func := "millwright/millwrightlaw03.ParseBack", spec := "parseBack", inPlace := ["internal/abi.NoEscape"], unfollowed := true, recurses := true, named := ["millwright/parse.forms", "millwright/parse.names", "millwright/parse.answers", "internal/strconv.uint64pow10", "math/bits.deBruijn32tab", "math/bits.deBruijn64tab"], apart := false, laid := [("math/bits.deBruijn32tab", laid_math_bits_deBruijn32tab), ("math/bits.deBruijn64tab", laid_math_bits_deBruijn64tab), ("internal/strconv.uint64pow10", laid_internal_strconv_uint64pow10), ("millwright/parse.names", laid_millwright_parse_names), ("millwright/parse.forms", laid_millwright_parse_forms), ("millwright/parse.answers", laid_millwright_parse_answers)] }
def ParseBackSaid : Prop := parseBackRow.holds Tryd.pinned (OpenSpec.ofChange parseBackSpec)

/-- ITS FALSE NEIGHBOUR: 'it returns false'. Refute it at one input. -/
def parseBackWrong : ChangeSpec := { name := "parseBack", fn := fun _ => fun
  | [d1, d2] => { results := [.lit (.bool false)], args := [d1, d2] }
  | _ => none }
def ParseBackWrongFalsely : Prop := parseBackRow.holds Tryd.pinned (OpenSpec.ofChange parseBackWrong)

/-- 'millwrightlaw03.ParseOrder': WHATEVER THE INPUT: true; the input reads as it did. -/
def parseOrderSpec : ChangeSpec := { name := "parseOrder", fn := fun _ => fun
  | [d] => { results := [.lit (.bool true)], args := [d] }
  | _ => none }
def parseOrderRow : OpenClaim := { program := "ytegbfimfpkendaadoor", sum := "1ef6353cfb25ebaa0e69b8f170d8e6d3873b9d587fb9fe0095342b005e09eb28", func := "millwright/millwrightlaw03.ParseOrder", spec := "parseOrder", inPlace := ["internal/abi.NoEscape"], unfollowed := true, recurses := true, named := ["millwright/parse.forms", "millwright/parse.names", "millwright/parse.answers", "internal/strconv.uint64pow10", "math/bits.deBruijn32tab", "math/bits.deBruijn64tab"], apart := false, laid := [("math/bits.deBruijn32tab", laid_math_bits_deBruijn32tab), ("math/bits.deBruijn64tab", laid_math_bits_deBruijn64tab), ("internal/strconv.uint64pow10", laid_internal_strconv_uint64pow10), ("millwright/parse.names", laid_millwright_parse_names), ("millwright/parse.forms", laid_millwright_parse_forms), ("millwright/parse.answers", laid_millwright_parse_answers)] }
def ParseOrderSaid : Prop := parseOrderRow.holds Tryd.pinned (OpenSpec.ofChange parseOrderSpec)

/-- ITS FALSE NEIGHBOUR: 'it returns false'. Refute it at one input. -/
def parseOrderWrong : ChangeSpec := { name := "parseOrder", fn := fun _ => fun
  | [d] => { results := [.lit (.bool false)], args := [d] }
  | _ => none }
def ParseOrderWrongFalsely : Prop := parseOrderRow.holds Tryd.pinned (OpenSpec.ofChange parseOrderWrong)

/-- 'millwrightlaw03.ParseLines': WHATEVER THE INPUT: true; the input reads as it did. -/
def parseLinesSpec : ChangeSpec := { name := "parseLines", fn := fun _ => fun
  | [d1, d2] => { results := [.lit (.bool true)], args := [d1, d2] }
  | _ => none }
def parseLinesRow : OpenClaim := { program := "ytegbfimfpkendaadoor", sum := "1ef6353cfb25ebaa0e69b8f170d8e6d3873b9d587fb9fe0095342b005e09eb28", func := "millwright/millwrightlaw03.ParseLines", spec := "parseLines", inPlace := ["internal/abi.NoEscape"], unfollowed := true, recurses := true, named := ["millwright/parse.forms", "millwright/parse.names", "millwright/parse.answers", "internal/strconv.uint64pow10", "math/bits.deBruijn32tab", "math/bits.deBruijn64tab"], apart := false, laid := [("math/bits.deBruijn32tab", laid_math_bits_deBruijn32tab), ("math/bits.deBruijn64tab", laid_math_bits_deBruijn64tab), ("internal/strconv.uint64pow10", laid_internal_strconv_uint64pow10), ("millwright/parse.names", laid_millwright_parse_names), ("millwright/parse.forms", laid_millwright_parse_forms), ("millwright/parse.answers", laid_millwright_parse_answers)] }
def ParseLinesSaid : Prop := parseLinesRow.holds Tryd.pinned (OpenSpec.ofChange parseLinesSpec)

/-- ITS FALSE NEIGHBOUR: 'it returns false'. Refute it at one input. -/
def parseLinesWrong : ChangeSpec := { name := "parseLines", fn := fun _ => fun
  | [d1, d2] => { results := [.lit (.bool false)], args := [d1, d2] }
  | _ => none }
def ParseLinesWrongFalsely : Prop := parseLinesRow.holds Tryd.pinned (OpenSpec.ofChange parseLinesWrong)

/-- 'millwrightlaw03.ParseNumbers': WHATEVER THE INPUT: true; the input reads as it did. -/
def parseNumbersSpec : ChangeSpec := { name := "parseNumbers", fn := fun _ => fun
  | [d1, d2] => { results := [.lit (.bool true)], args := [d1, d2] }
  | _ => none }
def parseNumbersRow : OpenClaim := { program := "ytegbfimfpkendaadoor", sum := "1ef6353cfb25ebaa0e69b8f170d8e6d3873b9d587fb9fe0095342b005e09eb28", func := "millwright/millwrightlaw03.ParseNumbers", spec := "parseNumbers", inPlace := ["internal/abi.NoEscape"], unfollowed := true, recurses := true, named := ["millwright/parse.forms", "millwright/parse.names", "millwright/parse.answers", "internal/strconv.uint64pow10", "math/bits.deBruijn32tab", "math/bits.deBruijn64tab"], apart := false, laid := [("math/bits.deBruijn32tab", laid_math_bits_deBruijn32tab), ("math/bits.deBruijn64tab", laid_math_bits_deBruijn64tab), ("internal/strconv.uint64pow10", laid_internal_strconv_uint64pow10), ("millwright/parse.names", laid_millwright_parse_names), ("millwright/parse.forms", laid_millwright_parse_forms), ("millwright/parse.answers", laid_millwright_parse_answers)] }
def ParseNumbersSaid : Prop := parseNumbersRow.holds Tryd.pinned (OpenSpec.ofChange parseNumbersSpec)

/-- ITS FALSE NEIGHBOUR: 'it returns false'. Refute it at one input. -/
def parseNumbersWrong : ChangeSpec := { name := "parseNumbers", fn := fun _ => fun
  | [d1, d2] => { results := [.lit (.bool false)], args := [d1, d2] }
  | _ => none }
def ParseNumbersWrongFalsely : Prop := parseNumbersRow.holds Tryd.pinned (OpenSpec.ofChange parseNumbersWrong)

/- THE SECOND FORM. 'bulk': how many values and letters a reading holds, each counted each time it is reached (what is shared counts as often as it is met; a slice's spare places count too). A statement '..UptoSaid' is the law's where the arguments, and the package variables that the reading takes, are together of bulk at most 1048576: NARROWER than '..Said'. Prove '..Said' where nothing that the law and all that it calls make is longer than what came in: it says more and counts as full. Else prove '..UptoSaid'. A law counts once. -/
mutual
def uptoBulk {H : Type} : DataW H → Nat
  | .lit (.string bytes) => bytes.length + 1
  | .lit _ => 1
  | .nil => 1
  | .ptr d => uptoBulk d + 1
  | .slice elems spare => uptoBulkAll elems + uptoBulkAll spare + 1
  | .agg parts => uptoBulkAll parts + 1
  | .iface _ d => uptoBulk d + 1
  | .map entries => uptoBulkEntries entries + 1
  | .held _ => 1
def uptoBulkAll {H : Type} : List (DataW H) → Nat
  | [] => 0
  | d :: r => uptoBulk d + uptoBulkAll r
def uptoBulkEntries {H : Type} : List (Lit × DataW H) → Nat
  | [] => 0
  | x :: r => uptoBulkEntry x + uptoBulkEntries r
def uptoBulkEntry {H : Type} : Lit × DataW H → Nat
  | (.string bytes, d) => bytes.length + uptoBulk d + 1
  | (_, d) => uptoBulk d + 1
 end
def uptoSmall : (H : Type) → List (DataW H) → Bool := fun _ ds => decide (uptoBulkAll ds ≤ 1048576)
def OpenSpec.upto (s : _root_.Go.ChangeSpec) : _root_.Go.OpenSpec := { _root_.Go.OpenSpec.ofChange s with cond := some uptoSmall }

/-- 'millwrightlaw03.ParseTells', WHERE WHAT IT READS IS OF BULK AT MOST 1048576: true; the input reads as it did. -/
def parseTellsUptoRow : OpenClaim := { program := "ytegbfimfpkendaadoor", sum := "1ef6353cfb25ebaa0e69b8f170d8e6d3873b9d587fb9fe0095342b005e09eb28", func := "millwright/millwrightlaw03.ParseTells", spec := "parseTells", inPlace := ["internal/abi.NoEscape"], unfollowed := true, recurses := true, named := ["millwright/parse.forms", "millwright/parse.names", "millwright/parse.answers", "internal/strconv.uint64pow10", "math/bits.deBruijn32tab", "math/bits.deBruijn64tab"], apart := false, laid := [("math/bits.deBruijn32tab", laid_math_bits_deBruijn32tab), ("math/bits.deBruijn64tab", laid_math_bits_deBruijn64tab), ("internal/strconv.uint64pow10", laid_internal_strconv_uint64pow10), ("millwright/parse.names", laid_millwright_parse_names), ("millwright/parse.forms", laid_millwright_parse_forms), ("millwright/parse.answers", laid_millwright_parse_answers)], narrowed := true }
def ParseTellsUptoSaid : Prop := parseTellsUptoRow.holds Tryd.pinned (OpenSpec.upto parseTellsSpec)

/-- 'millwrightlaw03.ParseTexts', WHERE WHAT IT READS IS OF BULK AT MOST 1048576: true; the input reads as it did. -/
def parseTextsUptoRow : OpenClaim := { program := "ytegbfimfpkendaadoor", sum := "1ef6353cfb25ebaa0e69b8f170d8e6d3873b9d587fb9fe0095342b005e09eb28", func := "millwright/millwrightlaw03.ParseTexts", spec := "parseTexts", inPlace := ["internal/abi.NoEscape"], unfollowed := true, recurses := true, named := ["millwright/parse.forms", "millwright/parse.names", "millwright/parse.answers", "internal/strconv.uint64pow10", "math/bits.deBruijn32tab", "math/bits.deBruijn64tab"], apart := false, laid := [("math/bits.deBruijn32tab", laid_math_bits_deBruijn32tab), ("math/bits.deBruijn64tab", laid_math_bits_deBruijn64tab), ("internal/strconv.uint64pow10", laid_internal_strconv_uint64pow10), ("millwright/parse.names", laid_millwright_parse_names), ("millwright/parse.forms", laid_millwright_parse_forms), ("millwright/parse.answers", laid_millwright_parse_answers)], narrowed := true }
def ParseTextsUptoSaid : Prop := parseTextsUptoRow.holds Tryd.pinned (OpenSpec.upto parseTextsSpec)

/-- 'millwrightlaw03.ParseBack', WHERE WHAT IT READS IS OF BULK AT MOST 1048576: true; the input reads as it did. -/
def parseBackUptoRow : OpenClaim := { program := "ytegbfimfpkendaadoor", sum := "1ef6353cfb25ebaa0e69b8f170d8e6d3873b9d587fb9fe0095342b005e09eb28", func := "millwright/millwrightlaw03.ParseBack", spec := "parseBack", inPlace := ["internal/abi.NoEscape"], unfollowed := true, recurses := true, named := ["millwright/parse.forms", "millwright/parse.names", "millwright/parse.answers", "internal/strconv.uint64pow10", "math/bits.deBruijn32tab", "math/bits.deBruijn64tab"], apart := false, laid := [("math/bits.deBruijn32tab", laid_math_bits_deBruijn32tab), ("math/bits.deBruijn64tab", laid_math_bits_deBruijn64tab), ("internal/strconv.uint64pow10", laid_internal_strconv_uint64pow10), ("millwright/parse.names", laid_millwright_parse_names), ("millwright/parse.forms", laid_millwright_parse_forms), ("millwright/parse.answers", laid_millwright_parse_answers)], narrowed := true }
def ParseBackUptoSaid : Prop := parseBackUptoRow.holds Tryd.pinned (OpenSpec.upto parseBackSpec)

/-- 'millwrightlaw03.ParseOrder', WHERE WHAT IT READS IS OF BULK AT MOST 1048576: true; the input reads as it did. -/
def parseOrderUptoRow : OpenClaim := { program := "ytegbfimfpkendaadoor", sum := "1ef6353cfb25ebaa0e69b8f170d8e6d3873b9d587fb9fe0095342b005e09eb28", func := "millwright/millwrightlaw03.ParseOrder", spec := "parseOrder", inPlace := ["internal/abi.NoEscape"], unfollowed := true, recurses := true, named := ["millwright/parse.forms", "millwright/parse.names", "millwright/parse.answers", "internal/strconv.uint64pow10", "math/bits.deBruijn32tab", "math/bits.deBruijn64tab"], apart := false, laid := [("math/bits.deBruijn32tab", laid_math_bits_deBruijn32tab), ("math/bits.deBruijn64tab", laid_math_bits_deBruijn64tab), ("internal/strconv.uint64pow10", laid_internal_strconv_uint64pow10), ("millwright/parse.names", laid_millwright_parse_names), ("millwright/parse.forms", laid_millwright_parse_forms), ("millwright/parse.answers", laid_millwright_parse_answers)], narrowed := true }
def ParseOrderUptoSaid : Prop := parseOrderUptoRow.holds Tryd.pinned (OpenSpec.upto parseOrderSpec)

/-- 'millwrightlaw03.ParseLines', WHERE WHAT IT READS IS OF BULK AT MOST 1048576: true; the input reads as it did. -/
def parseLinesUptoRow : OpenClaim := { program := "ytegbfimfpkendaadoor", sum := "1ef6353cfb25ebaa0e69b8f170d8e6d3873b9d587fb9fe0095342b005e09eb28", func := "millwright/millwrightlaw03.ParseLines", spec := "parseLines", inPlace := ["internal/abi.NoEscape"], unfollowed := true, recurses := true, named := ["millwright/parse.forms", "millwright/parse.names", "millwright/parse.answers", "internal/strconv.uint64pow10", "math/bits.deBruijn32tab", "math/bits.deBruijn64tab"], apart := false, laid := [("math/bits.deBruijn32tab", laid_math_bits_deBruijn32tab), ("math/bits.deBruijn64tab", laid_math_bits_deBruijn64tab), ("internal/strconv.uint64pow10", laid_internal_strconv_uint64pow10), ("millwright/parse.names", laid_millwright_parse_names), ("millwright/parse.forms", laid_millwright_parse_forms), ("millwright/parse.answers", laid_millwright_parse_answers)], narrowed := true }
def ParseLinesUptoSaid : Prop := parseLinesUptoRow.holds Tryd.pinned (OpenSpec.upto parseLinesSpec)

/-- 'millwrightlaw03.ParseNumbers', WHERE WHAT IT READS IS OF BULK AT MOST 1048576: true; the input reads as it did. -/
def parseNumbersUptoRow : OpenClaim := { program := "ytegbfimfpkendaadoor", sum := "1ef6353cfb25ebaa0e69b8f170d8e6d3873b9d587fb9fe0095342b005e09eb28", func := "millwright/millwrightlaw03.ParseNumbers", spec := "parseNumbers", inPlace := ["internal/abi.NoEscape"], unfollowed := true, recurses := true, named := ["millwright/parse.forms", "millwright/parse.names", "millwright/parse.answers", "internal/strconv.uint64pow10", "math/bits.deBruijn32tab", "math/bits.deBruijn64tab"], apart := false, laid := [("math/bits.deBruijn32tab", laid_math_bits_deBruijn32tab), ("math/bits.deBruijn64tab", laid_math_bits_deBruijn64tab), ("internal/strconv.uint64pow10", laid_internal_strconv_uint64pow10), ("millwright/parse.names", laid_millwright_parse_names), ("millwright/parse.forms", laid_millwright_parse_forms), ("millwright/parse.answers", laid_millwright_parse_answers)], narrowed := true }
def ParseNumbersUptoSaid : Prop := parseNumbersUptoRow.holds Tryd.pinned (OpenSpec.upto parseNumbersSpec)

end Rows
end Go.Proofs.YtegbfimfpkendaaDoor
