/-
  DERIVED. GIVEN WITH THE SEED: THE PROGRAM's TIES (one call each: nine closed facts by the kernel) AND EACH ROW's TIE, after the 31st guide's Derived/Test/Toyas{Tie, Card}.lean. No idea stands in it: it is a product of the set-up. Laid BY PROGRAM, IN A SANDBOX (cutbox-door.mjs). By AI agents, Wed Nov 11 2026. No macro, syntax, notation, axiom, sorry.
-/
import Derived.Test.YtegbfimfpkendaaDoorRows
import Derived.LaidByTextLater
import Derived.SevenTiedAt
import Derived.LaidSub
import Derived.LaidOnce
namespace Go.Proofs.YtegbfimfpkendaaDoor
open Go
set_option maxRecDepth 100000
theorem seatTie1 : Tryd.prog.laidByTextLater [("math/bits.deBruijn32tab", Rows.laid_math_bits_deBruijn32tab), ("math/bits.deBruijn64tab", Rows.laid_math_bits_deBruijn64tab), ("internal/strconv.uint64pow10", Rows.laid_internal_strconv_uint64pow10), ("millwright/parse.names", Rows.laid_millwright_parse_names), ("millwright/parse.forms", Rows.laid_millwright_parse_forms), ("millwright/parse.answers", Rows.laid_millwright_parse_answers)] [.data, .data, .data, .data, .widerDeep, .widerDeep] true :=
  Program.laidByTextLater_by_one 48 8 65 (by kernel_rfl) (by kernel_rfl) (by kernel_rfl) (by kernel_rfl) (by kernel_rfl) (by kernel_rfl) (fun _ _ => by kernel_rfl)
theorem noOwnUnsafe : Tryd.pinned.checked.prog.headLifts.contains "ownunsafe" = false := by kernel_rfl
theorem tie : Tryd.prog.laidByTextLater [("math/bits.deBruijn32tab", Rows.laid_math_bits_deBruijn32tab), ("math/bits.deBruijn64tab", Rows.laid_math_bits_deBruijn64tab), ("internal/strconv.uint64pow10", Rows.laid_internal_strconv_uint64pow10), ("millwright/parse.names", Rows.laid_millwright_parse_names), ("millwright/parse.forms", Rows.laid_millwright_parse_forms), ("millwright/parse.answers", Rows.laid_millwright_parse_answers)] [.data, .data, .data, .data, .widerDeep, .widerDeep] true :=
  Program.laidByTextLater.sub seatTie1 ["math/bits.deBruijn32tab", "math/bits.deBruijn64tab", "internal/strconv.uint64pow10", "millwright/parse.names", "millwright/parse.forms", "millwright/parse.answers"] (by kernel_rfl) (by kernel_rfl)
theorem parseTells_row_tie : Rows.parseTellsRow.laidByTextAt .later Tryd.pinned [.data, .data, .data, .data, .widerDeep, .widerDeep] true :=
  OpenClaim.laidByTextAt_later rfl rfl tie noOwnUnsafe
theorem parseTexts_row_tie : Rows.parseTextsRow.laidByTextAt .later Tryd.pinned [.data, .data, .data, .data, .widerDeep, .widerDeep] true :=
  OpenClaim.laidByTextAt_later rfl rfl tie noOwnUnsafe
theorem parseBack_row_tie : Rows.parseBackRow.laidByTextAt .later Tryd.pinned [.data, .data, .data, .data, .widerDeep, .widerDeep] true :=
  OpenClaim.laidByTextAt_later rfl rfl tie noOwnUnsafe
theorem parseOrder_row_tie : Rows.parseOrderRow.laidByTextAt .later Tryd.pinned [.data, .data, .data, .data, .widerDeep, .widerDeep] true :=
  OpenClaim.laidByTextAt_later rfl rfl tie noOwnUnsafe
theorem parseLines_row_tie : Rows.parseLinesRow.laidByTextAt .later Tryd.pinned [.data, .data, .data, .data, .widerDeep, .widerDeep] true :=
  OpenClaim.laidByTextAt_later rfl rfl tie noOwnUnsafe
theorem parseNumbers_row_tie : Rows.parseNumbersRow.laidByTextAt .later Tryd.pinned [.data, .data, .data, .data, .widerDeep, .widerDeep] true :=
  OpenClaim.laidByTextAt_later rfl rfl tie noOwnUnsafe
theorem parseTellsUpto_row_tie : Rows.parseTellsUptoRow.laidByTextAt .later Tryd.pinned [.data, .data, .data, .data, .widerDeep, .widerDeep] true :=
  OpenClaim.laidByTextAt_later rfl rfl tie noOwnUnsafe
theorem parseTextsUpto_row_tie : Rows.parseTextsUptoRow.laidByTextAt .later Tryd.pinned [.data, .data, .data, .data, .widerDeep, .widerDeep] true :=
  OpenClaim.laidByTextAt_later rfl rfl tie noOwnUnsafe
theorem parseBackUpto_row_tie : Rows.parseBackUptoRow.laidByTextAt .later Tryd.pinned [.data, .data, .data, .data, .widerDeep, .widerDeep] true :=
  OpenClaim.laidByTextAt_later rfl rfl tie noOwnUnsafe
theorem parseOrderUpto_row_tie : Rows.parseOrderUptoRow.laidByTextAt .later Tryd.pinned [.data, .data, .data, .data, .widerDeep, .widerDeep] true :=
  OpenClaim.laidByTextAt_later rfl rfl tie noOwnUnsafe
theorem parseLinesUpto_row_tie : Rows.parseLinesUptoRow.laidByTextAt .later Tryd.pinned [.data, .data, .data, .data, .widerDeep, .widerDeep] true :=
  OpenClaim.laidByTextAt_later rfl rfl tie noOwnUnsafe
theorem parseNumbersUpto_row_tie : Rows.parseNumbersUptoRow.laidByTextAt .later Tryd.pinned [.data, .data, .data, .data, .widerDeep, .widerDeep] true :=
  OpenClaim.laidByTextAt_later rfl rfl tie noOwnUnsafe
end Go.Proofs.YtegbfimfpkendaaDoor
