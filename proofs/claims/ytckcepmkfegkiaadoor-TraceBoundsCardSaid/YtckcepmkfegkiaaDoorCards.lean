/-
  DERIVED. GIVEN WITH THE SEED: THE CARDS: each row of YtckcepmkfegkiaaDoorRows.lean that lists a variable, with what it lists TIED to the program's text (the seventh form; the later family's looks); each row that meets fmt, with fmt's text TOLD by the authors' own Lean function (tested against real Go, not proved from fmt's source: count such statements apart). THE CARD IS WHAT COUNTS. Prove the row's statement (the work); the ties are given (YtckcepmkfegkiaaDoorTie.lean); close each card by the builder's one call (the guide's Derived/Test/ToyasCard.lean, 'card_holds'). Laid BY PROGRAM, IN A SANDBOX (cutbox-door.mjs). By AI agents, Wed Nov 11 2026. No macro, syntax, notation, axiom, sorry.
-/
import Derived.Test.YtckcepmkfegkiaaDoorRows
import GoSem.ClaimSeven
namespace Go.Proofs.YtckcepmkfegkiaaDoor
namespace Rows

/-- THE TIED CARD OF 'millwrightlaw19.TraceTells'. -/
def traceTellsCard : Claim7 := { stood := { row := traceTellsRow, standIns := [], harness := (true, "09abe8005e925c96b426a5051569cbd86cc9104a101f4c493441177ab49d373f"), looks := false }, kinds := [], alts := [], laidByText := true, laidKinds := [.data, .data, .data, .widerDeep, .funcs], laidTests := true, laidLooks := .later }
def TraceTellsCardSaid : Prop := Claim7.holds Tryd.pinned (.plain (OpenSpec.ofChange traceTellsSpec)) traceTellsCard

/-- THE TIED CARD OF 'millwrightlaw19.TraceParses'. -/
def traceParsesCard : Claim7 := { stood := { row := traceParsesRow, standIns := [], harness := (true, "09abe8005e925c96b426a5051569cbd86cc9104a101f4c493441177ab49d373f"), looks := false }, kinds := [], alts := [], laidByText := true, laidKinds := [.data, .data, .data, .widerDeep, .funcs], laidTests := true, laidLooks := .later }
def TraceParsesCardSaid : Prop := Claim7.holds Tryd.pinned (.plain (OpenSpec.ofChange traceParsesSpec)) traceParsesCard

/-- THE TIED CARD OF 'millwrightlaw19.TraceBack'. -/
def traceBackCard : Claim7 := { stood := { row := traceBackRow, standIns := [], harness := (true, "09abe8005e925c96b426a5051569cbd86cc9104a101f4c493441177ab49d373f"), looks := false }, kinds := [], alts := [], laidByText := true, laidKinds := [.data, .data, .data, .widerDeep, .funcs], laidTests := true, laidLooks := .later }
def TraceBackCardSaid : Prop := Claim7.holds Tryd.pinned (.plain (OpenSpec.ofChange traceBackSpec)) traceBackCard

/-- THE TIED CARD OF 'millwrightlaw19.TraceBounds'. -/
def traceBoundsCard : Claim7 := { stood := { row := traceBoundsRow, standIns := [], harness := (true, "09abe8005e925c96b426a5051569cbd86cc9104a101f4c493441177ab49d373f"), looks := false }, kinds := [], alts := [], laidByText := true, laidKinds := [.data, .data, .data, .widerDeep, .funcs], laidTests := true, laidLooks := .later }
def TraceBoundsCardSaid : Prop := Claim7.holds Tryd.pinned (.plain (OpenSpec.ofChange traceBoundsSpec)) traceBoundsCard

/-- THE TIED CARD OF 'millwrightlaw19.TracePrefix'. -/
def tracePrefixCard : Claim7 := { stood := { row := tracePrefixRow, standIns := [], harness := (true, "09abe8005e925c96b426a5051569cbd86cc9104a101f4c493441177ab49d373f"), looks := false }, kinds := [], alts := [], laidByText := true, laidKinds := [.data, .data, .data, .widerDeep, .funcs], laidTests := true, laidLooks := .later }
def TracePrefixCardSaid : Prop := Claim7.holds Tryd.pinned (.plain (OpenSpec.ofChange tracePrefixSpec)) tracePrefixCard

/-- THE TIED CARD OF 'millwrightlaw19.TraceMore'. -/
def traceMoreCard : Claim7 := { stood := { row := traceMoreRow, standIns := [], harness := (true, "09abe8005e925c96b426a5051569cbd86cc9104a101f4c493441177ab49d373f"), looks := false }, kinds := [], alts := [], laidByText := true, laidKinds := [.data, .data, .data, .widerDeep, .funcs], laidTests := true, laidLooks := .later }
def TraceMoreCardSaid : Prop := Claim7.holds Tryd.pinned (.plain (OpenSpec.ofChange traceMoreSpec)) traceMoreCard

/-- THE TIED CARD OF 'millwrightlaw19.TraceLater'. -/
def traceLaterCard : Claim7 := { stood := { row := traceLaterRow, standIns := [], harness := (true, "09abe8005e925c96b426a5051569cbd86cc9104a101f4c493441177ab49d373f"), looks := false }, kinds := [], alts := [], laidByText := true, laidKinds := [.data, .data, .data, .widerDeep, .funcs], laidTests := true, laidLooks := .later }
def TraceLaterCardSaid : Prop := Claim7.holds Tryd.pinned (.plain (OpenSpec.ofChange traceLaterSpec)) traceLaterCard

/-- THE TIED CARD OF 'millwrightlaw19.TraceApart'. -/
def traceApartCard : Claim7 := { stood := { row := traceApartRow, standIns := [], harness := (true, "09abe8005e925c96b426a5051569cbd86cc9104a101f4c493441177ab49d373f"), looks := false }, kinds := [], alts := [], laidByText := true, laidKinds := [.data, .data, .data, .widerDeep, .funcs], laidTests := true, laidLooks := .later }
def TraceApartCardSaid : Prop := Claim7.holds Tryd.pinned (.plain (OpenSpec.ofChange traceApartSpec)) traceApartCard

/-- THE TIED CARD OF 'millwrightlaw19.TraceRows'. -/
def traceRowsCard : Claim7 := { stood := { row := traceRowsRow, standIns := [], harness := (true, "09abe8005e925c96b426a5051569cbd86cc9104a101f4c493441177ab49d373f"), looks := false }, kinds := [], alts := [], laidByText := true, laidKinds := [.data, .data, .data, .widerDeep, .funcs], laidTests := true, laidLooks := .later }
def TraceRowsCardSaid : Prop := Claim7.holds Tryd.pinned (.plain (OpenSpec.ofChange traceRowsSpec)) traceRowsCard

/-- THE TIED CARD OF 'millwrightlaw19.TraceOne'. -/
def traceOneCard : Claim7 := { stood := { row := traceOneRow, standIns := [], harness := (true, "09abe8005e925c96b426a5051569cbd86cc9104a101f4c493441177ab49d373f"), looks := false }, kinds := [], alts := [], laidByText := true, laidKinds := [.data, .data, .data, .widerDeep, .funcs], laidTests := true, laidLooks := .later }
def TraceOneCardSaid : Prop := Claim7.holds Tryd.pinned (.plain (OpenSpec.ofChange traceOneSpec)) traceOneCard

/-- THE TIED CARD OF 'millwrightlaw19.TraceMemory'. -/
def traceMemoryCard : Claim7 := { stood := { row := traceMemoryRow, standIns := [], harness := (true, "09abe8005e925c96b426a5051569cbd86cc9104a101f4c493441177ab49d373f"), looks := false }, kinds := [], alts := [], laidByText := true, laidKinds := [.data, .data, .data, .widerDeep, .funcs], laidTests := true, laidLooks := .later }
def TraceMemoryCardSaid : Prop := Claim7.holds Tryd.pinned (.plain (OpenSpec.ofChange traceMemorySpec)) traceMemoryCard

/-- THE SECOND FORM's CARD OF 'millwrightlaw19.TraceTells'. -/
def traceTellsUptoCard : Claim7 := { stood := { row := traceTellsUptoRow, standIns := [], harness := (true, "09abe8005e925c96b426a5051569cbd86cc9104a101f4c493441177ab49d373f"), looks := false }, kinds := [], alts := [], laidByText := true, laidKinds := [.data, .data, .data, .widerDeep, .funcs], laidTests := true, laidLooks := .later }
def TraceTellsUptoCardSaid : Prop := Claim7.holds Tryd.pinned (.plain (OpenSpec.upto traceTellsSpec)) traceTellsUptoCard

/-- THE SECOND FORM's CARD OF 'millwrightlaw19.TraceParses'. -/
def traceParsesUptoCard : Claim7 := { stood := { row := traceParsesUptoRow, standIns := [], harness := (true, "09abe8005e925c96b426a5051569cbd86cc9104a101f4c493441177ab49d373f"), looks := false }, kinds := [], alts := [], laidByText := true, laidKinds := [.data, .data, .data, .widerDeep, .funcs], laidTests := true, laidLooks := .later }
def TraceParsesUptoCardSaid : Prop := Claim7.holds Tryd.pinned (.plain (OpenSpec.upto traceParsesSpec)) traceParsesUptoCard

/-- THE SECOND FORM's CARD OF 'millwrightlaw19.TraceBack'. -/
def traceBackUptoCard : Claim7 := { stood := { row := traceBackUptoRow, standIns := [], harness := (true, "09abe8005e925c96b426a5051569cbd86cc9104a101f4c493441177ab49d373f"), looks := false }, kinds := [], alts := [], laidByText := true, laidKinds := [.data, .data, .data, .widerDeep, .funcs], laidTests := true, laidLooks := .later }
def TraceBackUptoCardSaid : Prop := Claim7.holds Tryd.pinned (.plain (OpenSpec.upto traceBackSpec)) traceBackUptoCard

/-- THE SECOND FORM's CARD OF 'millwrightlaw19.TraceBounds'. -/
def traceBoundsUptoCard : Claim7 := { stood := { row := traceBoundsUptoRow, standIns := [], harness := (true, "09abe8005e925c96b426a5051569cbd86cc9104a101f4c493441177ab49d373f"), looks := false }, kinds := [], alts := [], laidByText := true, laidKinds := [.data, .data, .data, .widerDeep, .funcs], laidTests := true, laidLooks := .later }
def TraceBoundsUptoCardSaid : Prop := Claim7.holds Tryd.pinned (.plain (OpenSpec.upto traceBoundsSpec)) traceBoundsUptoCard

/-- THE SECOND FORM's CARD OF 'millwrightlaw19.TracePrefix'. -/
def tracePrefixUptoCard : Claim7 := { stood := { row := tracePrefixUptoRow, standIns := [], harness := (true, "09abe8005e925c96b426a5051569cbd86cc9104a101f4c493441177ab49d373f"), looks := false }, kinds := [], alts := [], laidByText := true, laidKinds := [.data, .data, .data, .widerDeep, .funcs], laidTests := true, laidLooks := .later }
def TracePrefixUptoCardSaid : Prop := Claim7.holds Tryd.pinned (.plain (OpenSpec.upto tracePrefixSpec)) tracePrefixUptoCard

/-- THE SECOND FORM's CARD OF 'millwrightlaw19.TraceMore'. -/
def traceMoreUptoCard : Claim7 := { stood := { row := traceMoreUptoRow, standIns := [], harness := (true, "09abe8005e925c96b426a5051569cbd86cc9104a101f4c493441177ab49d373f"), looks := false }, kinds := [], alts := [], laidByText := true, laidKinds := [.data, .data, .data, .widerDeep, .funcs], laidTests := true, laidLooks := .later }
def TraceMoreUptoCardSaid : Prop := Claim7.holds Tryd.pinned (.plain (OpenSpec.upto traceMoreSpec)) traceMoreUptoCard

/-- THE SECOND FORM's CARD OF 'millwrightlaw19.TraceLater'. -/
def traceLaterUptoCard : Claim7 := { stood := { row := traceLaterUptoRow, standIns := [], harness := (true, "09abe8005e925c96b426a5051569cbd86cc9104a101f4c493441177ab49d373f"), looks := false }, kinds := [], alts := [], laidByText := true, laidKinds := [.data, .data, .data, .widerDeep, .funcs], laidTests := true, laidLooks := .later }
def TraceLaterUptoCardSaid : Prop := Claim7.holds Tryd.pinned (.plain (OpenSpec.upto traceLaterSpec)) traceLaterUptoCard

/-- THE SECOND FORM's CARD OF 'millwrightlaw19.TraceApart'. -/
def traceApartUptoCard : Claim7 := { stood := { row := traceApartUptoRow, standIns := [], harness := (true, "09abe8005e925c96b426a5051569cbd86cc9104a101f4c493441177ab49d373f"), looks := false }, kinds := [], alts := [], laidByText := true, laidKinds := [.data, .data, .data, .widerDeep, .funcs], laidTests := true, laidLooks := .later }
def TraceApartUptoCardSaid : Prop := Claim7.holds Tryd.pinned (.plain (OpenSpec.upto traceApartSpec)) traceApartUptoCard

/-- THE SECOND FORM's CARD OF 'millwrightlaw19.TraceRows'. -/
def traceRowsUptoCard : Claim7 := { stood := { row := traceRowsUptoRow, standIns := [], harness := (true, "09abe8005e925c96b426a5051569cbd86cc9104a101f4c493441177ab49d373f"), looks := false }, kinds := [], alts := [], laidByText := true, laidKinds := [.data, .data, .data, .widerDeep, .funcs], laidTests := true, laidLooks := .later }
def TraceRowsUptoCardSaid : Prop := Claim7.holds Tryd.pinned (.plain (OpenSpec.upto traceRowsSpec)) traceRowsUptoCard

/-- THE SECOND FORM's CARD OF 'millwrightlaw19.TraceOne'. -/
def traceOneUptoCard : Claim7 := { stood := { row := traceOneUptoRow, standIns := [], harness := (true, "09abe8005e925c96b426a5051569cbd86cc9104a101f4c493441177ab49d373f"), looks := false }, kinds := [], alts := [], laidByText := true, laidKinds := [.data, .data, .data, .widerDeep, .funcs], laidTests := true, laidLooks := .later }
def TraceOneUptoCardSaid : Prop := Claim7.holds Tryd.pinned (.plain (OpenSpec.upto traceOneSpec)) traceOneUptoCard

/-- THE SECOND FORM's CARD OF 'millwrightlaw19.TraceMemory'. -/
def traceMemoryUptoCard : Claim7 := { stood := { row := traceMemoryUptoRow, standIns := [], harness := (true, "09abe8005e925c96b426a5051569cbd86cc9104a101f4c493441177ab49d373f"), looks := false }, kinds := [], alts := [], laidByText := true, laidKinds := [.data, .data, .data, .widerDeep, .funcs], laidTests := true, laidLooks := .later }
def TraceMemoryUptoCardSaid : Prop := Claim7.holds Tryd.pinned (.plain (OpenSpec.upto traceMemorySpec)) traceMemoryUptoCard
end Rows
end Go.Proofs.YtckcepmkfegkiaaDoor
