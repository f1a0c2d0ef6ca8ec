/-
  DERIVED. GIVEN WITH THE SEED: THE PROGRAM's TIES (one call each: nine closed facts by the kernel) AND EACH ROW's TIE, after the 31st guide's Derived/Test/Toyas{Tie, Card}.lean. No idea stands in it: it is a product of the set-up. Laid BY PROGRAM, IN A SANDBOX (cutbox-door.mjs). By AI agents, Wed Nov 11 2026. No macro, syntax, notation, axiom, sorry.
-/
import Derived.Test.YtckcepmkfegkiaaDoorRows
import Derived.LaidByTextLater
import Derived.SevenTiedAt
import Derived.LaidSub
import Derived.LaidOnce
namespace Go.Proofs.YtckcepmkfegkiaaDoor
open Go
set_option maxRecDepth 100000
theorem seatTie1 : Tryd.prog.laidByTextLater [("math/bits.deBruijn32tab", Rows.laid_math_bits_deBruijn32tab), ("math/bits.deBruijn64tab", Rows.laid_math_bits_deBruijn64tab), ("internal/strconv.uint64pow10", Rows.laid_internal_strconv_uint64pow10), ("millwright/trace.words", Rows.laid_millwright_trace_words), ("millwright/trace.ends", Rows.laid_millwright_trace_ends)] [.data, .data, .data, .widerDeep, .funcs] true :=
  Program.laidByTextLater_by_one 59 8 65 (by kernel_rfl) (by kernel_rfl) (by kernel_rfl) (by kernel_rfl) (by kernel_rfl) (by kernel_rfl) (fun _ _ => by kernel_rfl)
theorem noOwnUnsafe : Tryd.pinned.checked.prog.headLifts.contains "ownunsafe" = false := by kernel_rfl
theorem tie : Tryd.prog.laidByTextLater [("math/bits.deBruijn32tab", Rows.laid_math_bits_deBruijn32tab), ("math/bits.deBruijn64tab", Rows.laid_math_bits_deBruijn64tab), ("internal/strconv.uint64pow10", Rows.laid_internal_strconv_uint64pow10), ("millwright/trace.words", Rows.laid_millwright_trace_words), ("millwright/trace.ends", Rows.laid_millwright_trace_ends)] [.data, .data, .data, .widerDeep, .funcs] true :=
  Program.laidByTextLater.sub seatTie1 ["math/bits.deBruijn32tab", "math/bits.deBruijn64tab", "internal/strconv.uint64pow10", "millwright/trace.words", "millwright/trace.ends"] (by kernel_rfl) (by kernel_rfl)
theorem traceTells_row_tie : Rows.traceTellsRow.laidByTextAt .later Tryd.pinned [.data, .data, .data, .widerDeep, .funcs] true :=
  OpenClaim.laidByTextAt_later rfl rfl tie noOwnUnsafe
theorem traceParses_row_tie : Rows.traceParsesRow.laidByTextAt .later Tryd.pinned [.data, .data, .data, .widerDeep, .funcs] true :=
  OpenClaim.laidByTextAt_later rfl rfl tie noOwnUnsafe
theorem traceBack_row_tie : Rows.traceBackRow.laidByTextAt .later Tryd.pinned [.data, .data, .data, .widerDeep, .funcs] true :=
  OpenClaim.laidByTextAt_later rfl rfl tie noOwnUnsafe
theorem traceBounds_row_tie : Rows.traceBoundsRow.laidByTextAt .later Tryd.pinned [.data, .data, .data, .widerDeep, .funcs] true :=
  OpenClaim.laidByTextAt_later rfl rfl tie noOwnUnsafe
theorem tracePrefix_row_tie : Rows.tracePrefixRow.laidByTextAt .later Tryd.pinned [.data, .data, .data, .widerDeep, .funcs] true :=
  OpenClaim.laidByTextAt_later rfl rfl tie noOwnUnsafe
theorem traceMore_row_tie : Rows.traceMoreRow.laidByTextAt .later Tryd.pinned [.data, .data, .data, .widerDeep, .funcs] true :=
  OpenClaim.laidByTextAt_later rfl rfl tie noOwnUnsafe
theorem traceLater_row_tie : Rows.traceLaterRow.laidByTextAt .later Tryd.pinned [.data, .data, .data, .widerDeep, .funcs] true :=
  OpenClaim.laidByTextAt_later rfl rfl tie noOwnUnsafe
theorem traceApart_row_tie : Rows.traceApartRow.laidByTextAt .later Tryd.pinned [.data, .data, .data, .widerDeep, .funcs] true :=
  OpenClaim.laidByTextAt_later rfl rfl tie noOwnUnsafe
theorem traceRows_row_tie : Rows.traceRowsRow.laidByTextAt .later Tryd.pinned [.data, .data, .data, .widerDeep, .funcs] true :=
  OpenClaim.laidByTextAt_later rfl rfl tie noOwnUnsafe
theorem traceOne_row_tie : Rows.traceOneRow.laidByTextAt .later Tryd.pinned [.data, .data, .data, .widerDeep, .funcs] true :=
  OpenClaim.laidByTextAt_later rfl rfl tie noOwnUnsafe
theorem traceMemory_row_tie : Rows.traceMemoryRow.laidByTextAt .later Tryd.pinned [.data, .data, .data, .widerDeep, .funcs] true :=
  OpenClaim.laidByTextAt_later rfl rfl tie noOwnUnsafe
theorem traceTellsUpto_row_tie : Rows.traceTellsUptoRow.laidByTextAt .later Tryd.pinned [.data, .data, .data, .widerDeep, .funcs] true :=
  OpenClaim.laidByTextAt_later rfl rfl tie noOwnUnsafe
theorem traceParsesUpto_row_tie : Rows.traceParsesUptoRow.laidByTextAt .later Tryd.pinned [.data, .data, .data, .widerDeep, .funcs] true :=
  OpenClaim.laidByTextAt_later rfl rfl tie noOwnUnsafe
theorem traceBackUpto_row_tie : Rows.traceBackUptoRow.laidByTextAt .later Tryd.pinned [.data, .data, .data, .widerDeep, .funcs] true :=
  OpenClaim.laidByTextAt_later rfl rfl tie noOwnUnsafe
theorem traceBoundsUpto_row_tie : Rows.traceBoundsUptoRow.laidByTextAt .later Tryd.pinned [.data, .data, .data, .widerDeep, .funcs] true :=
  OpenClaim.laidByTextAt_later rfl rfl tie noOwnUnsafe
theorem tracePrefixUpto_row_tie : Rows.tracePrefixUptoRow.laidByTextAt .later Tryd.pinned [.data, .data, .data, .widerDeep, .funcs] true :=
  OpenClaim.laidByTextAt_later rfl rfl tie noOwnUnsafe
theorem traceMoreUpto_row_tie : Rows.traceMoreUptoRow.laidByTextAt .later Tryd.pinned [.data, .data, .data, .widerDeep, .funcs] true :=
  OpenClaim.laidByTextAt_later rfl rfl tie noOwnUnsafe
theorem traceLaterUpto_row_tie : Rows.traceLaterUptoRow.laidByTextAt .later Tryd.pinned [.data, .data, .data, .widerDeep, .funcs] true :=
  OpenClaim.laidByTextAt_later rfl rfl tie noOwnUnsafe
theorem traceApartUpto_row_tie : Rows.traceApartUptoRow.laidByTextAt .later Tryd.pinned [.data, .data, .data, .widerDeep, .funcs] true :=
  OpenClaim.laidByTextAt_later rfl rfl tie noOwnUnsafe
theorem traceRowsUpto_row_tie : Rows.traceRowsUptoRow.laidByTextAt .later Tryd.pinned [.data, .data, .data, .widerDeep, .funcs] true :=
  OpenClaim.laidByTextAt_later rfl rfl tie noOwnUnsafe
theorem traceOneUpto_row_tie : Rows.traceOneUptoRow.laidByTextAt .later Tryd.pinned [.data, .data, .data, .widerDeep, .funcs] true :=
  OpenClaim.laidByTextAt_later rfl rfl tie noOwnUnsafe
theorem traceMemoryUpto_row_tie : Rows.traceMemoryUptoRow.laidByTextAt .later Tryd.pinned [.data, .data, .data, .widerDeep, .funcs] true :=
  OpenClaim.laidByTextAt_later rfl rfl tie noOwnUnsafe
end Go.Proofs.YtckcepmkfegkiaaDoor
