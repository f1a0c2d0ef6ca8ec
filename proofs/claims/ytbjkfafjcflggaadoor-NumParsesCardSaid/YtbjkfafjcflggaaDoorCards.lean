/-
  DERIVED. GIVEN WITH THE SEED: THE CARDS: each row of YtbjkfafjcflggaaDoorRows.lean that lists a variable, with what it lists TIED to the program's text (the seventh form; the later family's looks); each row that meets fmt, with fmt's text TOLD by the authors' own Lean function (tested against real Go, not proved from fmt's source: count such statements apart). THE CARD IS WHAT COUNTS. Prove the row's statement (the work); the ties are given (YtbjkfafjcflggaaDoorTie.lean); close each card by the builder's one call (the guide's Derived/Test/ToyasCard.lean, 'card_holds'). Laid BY PROGRAM, IN A SANDBOX (cutbox-door.mjs). By AI agents, Wed Nov 11 2026. No macro, syntax, notation, axiom, sorry.
-/
import Derived.Test.YtbjkfafjcflggaaDoorRows
import GoSem.ClaimSeven
namespace Go.Proofs.YtbjkfafjcflggaaDoor
namespace Rows

/-- THE TIED CARD OF 'millwrightlaw01.NumTimes'. -/
def numTimesCard : Claim7 := { stood := { row := numTimesRow, standIns := [], harness := (true, "bd15cba011fdafa33411705b97afba7637a1709b950c700d934b85417458fa8a"), looks := false }, kinds := [], alts := [], laidByText := true, laidKinds := [.data, .data, .data], laidTests := true, laidLooks := .later }
def NumTimesCardSaid : Prop := Claim7.holds Tryd.pinned (.plain (OpenSpec.ofChange numTimesSpec)) numTimesCard

/-- THE TIED CARD OF 'millwrightlaw01.NumParses'. -/
def numParsesCard : Claim7 := { stood := { row := numParsesRow, standIns := [], harness := (true, "bd15cba011fdafa33411705b97afba7637a1709b950c700d934b85417458fa8a"), looks := false }, kinds := [], alts := [], laidByText := true, laidKinds := [.data, .data, .data], laidTests := true, laidLooks := .later }
def NumParsesCardSaid : Prop := Claim7.holds Tryd.pinned (.plain (OpenSpec.ofChange numParsesSpec)) numParsesCard

/-- THE TIED CARD OF 'millwrightlaw01.NumTexts'. -/
def numTextsCard : Claim7 := { stood := { row := numTextsRow, standIns := [], harness := (true, "bd15cba011fdafa33411705b97afba7637a1709b950c700d934b85417458fa8a"), looks := false }, kinds := [], alts := [], laidByText := true, laidKinds := [.data, .data, .data], laidTests := true, laidLooks := .later }
def NumTextsCardSaid : Prop := Claim7.holds Tryd.pinned (.plain (OpenSpec.ofChange numTextsSpec)) numTextsCard

/-- THE TIED CARD OF 'millwrightlaw01.NumDoubles'. -/
def numDoublesCard : Claim7 := { stood := { row := numDoublesRow, standIns := [], harness := (true, "bd15cba011fdafa33411705b97afba7637a1709b950c700d934b85417458fa8a"), looks := false }, kinds := [], alts := [], laidByText := true, laidKinds := [.data, .data, .data], laidTests := true, laidLooks := .later }
def NumDoublesCardSaid : Prop := Claim7.holds Tryd.pinned (.plain (OpenSpec.ofChange numDoublesSpec)) numDoublesCard

/-- THE TIED CARD OF 'millwrightlaw01.NumShares'. -/
def numSharesCard : Claim7 := { stood := { row := numSharesRow, standIns := [], harness := (true, "bd15cba011fdafa33411705b97afba7637a1709b950c700d934b85417458fa8a"), looks := false }, kinds := [], alts := [], laidByText := true, laidKinds := [.data, .data, .data], laidTests := true, laidLooks := .later }
def NumSharesCardSaid : Prop := Claim7.holds Tryd.pinned (.plain (OpenSpec.ofChange numSharesSpec)) numSharesCard

/-- THE TIED CARD OF 'millwrightlaw01.NumSteps'. -/
def numStepsCard : Claim7 := { stood := { row := numStepsRow, standIns := [], harness := (true, "bd15cba011fdafa33411705b97afba7637a1709b950c700d934b85417458fa8a"), looks := false }, kinds := [], alts := [], laidByText := true, laidKinds := [.data, .data, .data], laidTests := true, laidLooks := .later }
def NumStepsCardSaid : Prop := Claim7.holds Tryd.pinned (.plain (OpenSpec.ofChange numStepsSpec)) numStepsCard

/-- THE TIED CARD OF 'millwrightlaw01.NumDigits'. -/
def numDigitsCard : Claim7 := { stood := { row := numDigitsRow, standIns := [], harness := (true, "bd15cba011fdafa33411705b97afba7637a1709b950c700d934b85417458fa8a"), looks := false }, kinds := [], alts := [], laidByText := true, laidKinds := [.data, .data, .data], laidTests := true, laidLooks := .later }
def NumDigitsCardSaid : Prop := Claim7.holds Tryd.pinned (.plain (OpenSpec.ofChange numDigitsSpec)) numDigitsCard

/-- THE TIED CARD OF 'millwrightlaw01.NumAdds'. -/
def numAddsCard : Claim7 := { stood := { row := numAddsRow, standIns := [], harness := (true, "bd15cba011fdafa33411705b97afba7637a1709b950c700d934b85417458fa8a"), looks := false }, kinds := [], alts := [], laidByText := true, laidKinds := [.data, .data, .data], laidTests := true, laidLooks := .later }
def NumAddsCardSaid : Prop := Claim7.holds Tryd.pinned (.plain (OpenSpec.ofChange numAddsSpec)) numAddsCard

/-- THE TIED CARD OF 'millwrightlaw01.NumRound'. -/
def numRoundCard : Claim7 := { stood := { row := numRoundRow, standIns := [], harness := (true, "bd15cba011fdafa33411705b97afba7637a1709b950c700d934b85417458fa8a"), looks := false }, kinds := [], alts := [], laidByText := true, laidKinds := [.data, .data, .data], laidTests := true, laidLooks := .later }
def NumRoundCardSaid : Prop := Claim7.holds Tryd.pinned (.plain (OpenSpec.ofChange numRoundSpec)) numRoundCard

/-- THE TIED CARD OF 'millwrightlaw01.NumOrder'. -/
def numOrderCard : Claim7 := { stood := { row := numOrderRow, standIns := [], harness := (true, "bd15cba011fdafa33411705b97afba7637a1709b950c700d934b85417458fa8a"), looks := false }, kinds := [], alts := [], laidByText := true, laidKinds := [.data, .data, .data], laidTests := true, laidLooks := .later }
def NumOrderCardSaid : Prop := Claim7.holds Tryd.pinned (.plain (OpenSpec.ofChange numOrderSpec)) numOrderCard

/-- THE SECOND FORM's CARD OF 'millwrightlaw01.NumTimes'. -/
def numTimesUptoCard : Claim7 := { stood := { row := numTimesUptoRow, standIns := [], harness := (true, "bd15cba011fdafa33411705b97afba7637a1709b950c700d934b85417458fa8a"), looks := false }, kinds := [], alts := [], laidByText := true, laidKinds := [.data, .data, .data], laidTests := true, laidLooks := .later }
def NumTimesUptoCardSaid : Prop := Claim7.holds Tryd.pinned (.plain (OpenSpec.upto numTimesSpec)) numTimesUptoCard

/-- THE SECOND FORM's CARD OF 'millwrightlaw01.NumParses'. -/
def numParsesUptoCard : Claim7 := { stood := { row := numParsesUptoRow, standIns := [], harness := (true, "bd15cba011fdafa33411705b97afba7637a1709b950c700d934b85417458fa8a"), looks := false }, kinds := [], alts := [], laidByText := true, laidKinds := [.data, .data, .data], laidTests := true, laidLooks := .later }
def NumParsesUptoCardSaid : Prop := Claim7.holds Tryd.pinned (.plain (OpenSpec.upto numParsesSpec)) numParsesUptoCard

/-- THE SECOND FORM's CARD OF 'millwrightlaw01.NumTexts'. -/
def numTextsUptoCard : Claim7 := { stood := { row := numTextsUptoRow, standIns := [], harness := (true, "bd15cba011fdafa33411705b97afba7637a1709b950c700d934b85417458fa8a"), looks := false }, kinds := [], alts := [], laidByText := true, laidKinds := [.data, .data, .data], laidTests := true, laidLooks := .later }
def NumTextsUptoCardSaid : Prop := Claim7.holds Tryd.pinned (.plain (OpenSpec.upto numTextsSpec)) numTextsUptoCard

/-- THE SECOND FORM's CARD OF 'millwrightlaw01.NumDoubles'. -/
def numDoublesUptoCard : Claim7 := { stood := { row := numDoublesUptoRow, standIns := [], harness := (true, "bd15cba011fdafa33411705b97afba7637a1709b950c700d934b85417458fa8a"), looks := false }, kinds := [], alts := [], laidByText := true, laidKinds := [.data, .data, .data], laidTests := true, laidLooks := .later }
def NumDoublesUptoCardSaid : Prop := Claim7.holds Tryd.pinned (.plain (OpenSpec.upto numDoublesSpec)) numDoublesUptoCard

/-- THE SECOND FORM's CARD OF 'millwrightlaw01.NumShares'. -/
def numSharesUptoCard : Claim7 := { stood := { row := numSharesUptoRow, standIns := [], harness := (true, "bd15cba011fdafa33411705b97afba7637a1709b950c700d934b85417458fa8a"), looks := false }, kinds := [], alts := [], laidByText := true, laidKinds := [.data, .data, .data], laidTests := true, laidLooks := .later }
def NumSharesUptoCardSaid : Prop := Claim7.holds Tryd.pinned (.plain (OpenSpec.upto numSharesSpec)) numSharesUptoCard

/-- THE SECOND FORM's CARD OF 'millwrightlaw01.NumSteps'. -/
def numStepsUptoCard : Claim7 := { stood := { row := numStepsUptoRow, standIns := [], harness := (true, "bd15cba011fdafa33411705b97afba7637a1709b950c700d934b85417458fa8a"), looks := false }, kinds := [], alts := [], laidByText := true, laidKinds := [.data, .data, .data], laidTests := true, laidLooks := .later }
def NumStepsUptoCardSaid : Prop := Claim7.holds Tryd.pinned (.plain (OpenSpec.upto numStepsSpec)) numStepsUptoCard

/-- THE SECOND FORM's CARD OF 'millwrightlaw01.NumDigits'. -/
def numDigitsUptoCard : Claim7 := { stood := { row := numDigitsUptoRow, standIns := [], harness := (true, "bd15cba011fdafa33411705b97afba7637a1709b950c700d934b85417458fa8a"), looks := false }, kinds := [], alts := [], laidByText := true, laidKinds := [.data, .data, .data], laidTests := true, laidLooks := .later }
def NumDigitsUptoCardSaid : Prop := Claim7.holds Tryd.pinned (.plain (OpenSpec.upto numDigitsSpec)) numDigitsUptoCard

/-- THE SECOND FORM's CARD OF 'millwrightlaw01.NumAdds'. -/
def numAddsUptoCard : Claim7 := { stood := { row := numAddsUptoRow, standIns := [], harness := (true, "bd15cba011fdafa33411705b97afba7637a1709b950c700d934b85417458fa8a"), looks := false }, kinds := [], alts := [], laidByText := true, laidKinds := [.data, .data, .data], laidTests := true, laidLooks := .later }
def NumAddsUptoCardSaid : Prop := Claim7.holds Tryd.pinned (.plain (OpenSpec.upto numAddsSpec)) numAddsUptoCard

/-- THE SECOND FORM's CARD OF 'millwrightlaw01.NumRound'. -/
def numRoundUptoCard : Claim7 := { stood := { row := numRoundUptoRow, standIns := [], harness := (true, "bd15cba011fdafa33411705b97afba7637a1709b950c700d934b85417458fa8a"), looks := false }, kinds := [], alts := [], laidByText := true, laidKinds := [.data, .data, .data], laidTests := true, laidLooks := .later }
def NumRoundUptoCardSaid : Prop := Claim7.holds Tryd.pinned (.plain (OpenSpec.upto numRoundSpec)) numRoundUptoCard

/-- THE SECOND FORM's CARD OF 'millwrightlaw01.NumOrder'. -/
def numOrderUptoCard : Claim7 := { stood := { row := numOrderUptoRow, standIns := [], harness := (true, "bd15cba011fdafa33411705b97afba7637a1709b950c700d934b85417458fa8a"), looks := false }, kinds := [], alts := [], laidByText := true, laidKinds := [.data, .data, .data], laidTests := true, laidLooks := .later }
def NumOrderUptoCardSaid : Prop := Claim7.holds Tryd.pinned (.plain (OpenSpec.upto numOrderSpec)) numOrderUptoCard
end Rows
end Go.Proofs.YtbjkfafjcflggaaDoor
